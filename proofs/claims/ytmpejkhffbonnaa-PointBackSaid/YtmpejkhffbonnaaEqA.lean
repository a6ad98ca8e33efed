/- '==' on arrays of bytes. -/
import Derived.Test.YtmpejkhffbonnaaSl
import Derived.ChangeKeysEq
namespace Go.Proofs.Ytmpejkhffbonnaa
open Go.RowKit
section
variable {P : Program}
theorem eqlAt {T E : TypeId} {κ : IntKind} {n : Nat} {f g : Nat → Nat} {z : Value} {bytes : Nat} (hu : P.underlying T = some (.array n E)) (he : P.underlying E = some (.int κ)) (hI : Inf P E z 1 bytes) (hc : P.cellsOf E = 1) (ha : ∀ w, (isAgg E).run P w = .ok false w)
    (h : ∀ j, j < n → f j = g j) (w : World) : (binOp .eql T (At κ n f) (At κ n g)).run P w = .ok (.bool true) w := by
  obtain ⟨i, hi, _⟩ := hI
  rw [show At κ n g = At κ n f by unfold At; rw [tab_congr fun j hj => (h j hj).symm]]
  have key : ∀ (l : List Nat), (∀ j ∈ l, j < n) → (Op.eqItems 9999 E 1 (tab κ n f).toArray (tab κ n f).toArray l).run P w = .ok true w := by
    intro l
    induction l with
    | nil => intro _; simp [Op.eqItems]
    | cons j l ih =>
      intro hl
      have hj := hl j (List.mem_cons_self ..)
      have hg : ((tab κ n f).toArray)[j * 1]? = some (.int κ (f j : Int)) := by
        have := tab_get (k := κ) (f := f) hj
        simpa using this
      have hp : (part E (tab κ n f).toArray (j * 1)).run P w = .ok (.int κ (f j : Int)) w := by
        simp only [part, Sem.run_bind, ha, Result.andThen_ok, hg]
        simp
      simp only [Op.eqItems, Sem.run_bind, hp, Result.andThen_ok, run_equalIn_int (P := P) w 9998 E κ κ _ _ he]
      simpa using ih fun j' hj' => hl j' (List.mem_cons_of_mem _ hj')
  have h2 := run_equalIn_array (P := P) w 9999 (tab κ n f).toArray (tab κ n f).toArray hu hi
  rw [hc, key _ fun j hj => List.mem_range.1 hj] at h2
  simp only [binOp, At, Sem.run_bind, Op.equal, Op.maxDepth, h2, Result.andThen_ok, Sem.run_pure]
theorem neqAt {T E : TypeId} {κ : IntKind} {n : Nat} {f g : Nat → Nat} {z : Value} {bytes : Nat} (hu : P.underlying T = some (.array n E)) (he : P.underlying E = some (.int κ)) (hI : Inf P E z 1 bytes) (hc : P.cellsOf E = 1) (ha : ∀ w, (isAgg E).run P w = .ok false w)
    (h : ∀ j, j < n → f j = g j) (w : World) : (binOp .neq T (At κ n f) (At κ n g)).run P w = .ok (.bool false) w := by
  obtain ⟨i, hi, _⟩ := hI
  rw [show At κ n g = At κ n f by unfold At; rw [tab_congr fun j hj => (h j hj).symm]]
  have key : ∀ (l : List Nat), (∀ j ∈ l, j < n) → (Op.eqItems 9999 E 1 (tab κ n f).toArray (tab κ n f).toArray l).run P w = .ok true w := by
    intro l
    induction l with
    | nil => intro _; simp [Op.eqItems]
    | cons j l ih =>
      intro hl
      have hj := hl j (List.mem_cons_self ..)
      have hg : ((tab κ n f).toArray)[j * 1]? = some (.int κ (f j : Int)) := by
        have := tab_get (k := κ) (f := f) hj
        simpa using this
      have hp : (part E (tab κ n f).toArray (j * 1)).run P w = .ok (.int κ (f j : Int)) w := by
        simp only [part, Sem.run_bind, ha, Result.andThen_ok, hg]
        simp
      simp only [Op.eqItems, Sem.run_bind, hp, Result.andThen_ok, run_equalIn_int (P := P) w 9998 E κ κ _ _ he]
      simpa using ih fun j' hj' => hl j' (List.mem_cons_of_mem _ hj')
  have h2 := run_equalIn_array (P := P) w 9999 (tab κ n f).toArray (tab κ n f).toArray hu hi
  rw [hc, key _ fun j hj => List.mem_range.1 hj] at h2
  simp only [binOp, At, Sem.run_bind, Op.equal, Op.maxDepth, h2, Result.andThen_ok, Sem.run_pure, Bool.not_true]
end
end Go.Proofs.Ytmpejkhffbonnaa
