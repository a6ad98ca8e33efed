/- The contracts of Encode. -/
import Derived.Test.YtbjnlcblaonccaaTruth
import Derived.WalkKit
import Derived.Below
import Derived.Outline
import Derived.Lib.Hide
import Derived.OwnWalk
import Derived.Laws.AppendOwn
import Derived.Laws.OwnMore
import Derived.Deep.AppendLies
namespace Go.Proofs.Ytbjnlcblaonccaa
open Go.RowKit

theorem info_u8 : (Try.prog.info? 5).map (fun i => (i.zero, i.size, i.bytes)) = some (some (.int .u8 0), 1, 1) := by kernel_rfl
def bv (l : List UInt8) : List Value := l.map fun c => .int .u8 (c.toNat : Int)

/-- a slice value that owns a row of bytes, from block B on -/
def Own (B : Nat) (w : World) (v : Value) (l : List UInt8) : Prop := w.ownsRow B 5 1 v l.length (bv l)

/-- a number's digits to the base 256, the lowest first -/
def le (m : Nat) : List UInt8 := if h : m = 0 then [] else UInt8.ofNat (m % 256) :: le (m / 256)
termination_by m
decreasing_by omega

theorem le_zero : le 0 = [] := by rw [le]; rfl
theorem le_pos (m : Nat) (h : m ≠ 0) : le m = UInt8.ofNat (m % 256) :: le (m / 256) := by rw [le]; simp [h]
theorem le_length (k : Nat) : ∀ m, m < 256 ^ k → (le m).length ≤ k := by
  induction k with
  | zero => intro m hm; have : m = 0 := by omega
            subst this; rw [le_zero]; exact Nat.le_refl _
  | succ k ih =>
    intro m hm
    by_cases h : m = 0
    · subst h; rw [le_zero]; simp
    · rw [le_pos m h]
      have := ih (m / 256) (by rw [Nat.pow_succ] at hm; omega)
      simp; omega

/-- what Encode makes of the amount's bytes -/
def sgn (neg : Bool) (xs : List UInt8) : List UInt8 :=
  if xs = [] then [] else
  if 128 ≤ xs.getD (xs.length - 1) 0 then xs ++ [if neg then 128 else 0] else
  if neg then xs.set (xs.length - 1) (xs.getD (xs.length - 1) 0 + 128) else xs
def enc (n : Int) : List UInt8 := sgn (decide (n < 0)) (le n.natAbs)

/-- Encode's loop: what is read off (amount, list) at its head -/
def EncInv (B : Nat) (w : World) (n0 : Nat) (am v : Value) (wr : World) : Prop :=
  ∃ (m : Nat) (xs : List UInt8), m ≤ n0 ∧ am = .int .u64 (m : Int) ∧ le n0 = xs ++ le m ∧ Own B wr v xs ∧ Below B w wr

theorem bv_snoc (xs : List UInt8) (c : UInt8) : bv (xs ++ [c]) = bv xs ++ [.int .u8 (c.toNat : Int)] := by simp [bv]
theorem bv_get (xs : List UInt8) (j : Nat) (h : j < xs.length) : (bv xs)[j]? = some (.int .u8 ((xs.getD j 0).toNat : Int)) := by
  simp [bv, h, List.getD]
theorem ofNat_mod (m : Nat) : ((UInt8.ofNat (m % 256)).toNat : Int) = IntKind.u8.wrap (m : Int) := by
  simp [IntKind.wrap, IntKind.bits, IntKind.signed]

theorem Own.push {B : Nat} {w : World} {v : Value} {xs : List UInt8} {c : UInt8} {z : Int} (hz : (c.toNat : Int) = z) (h : w.ownsRow B 5 1 v (xs.length + 1) (bv xs ++ [.int .u8 z])) : Own B w v (xs ++ [c]) := by
  unfold Own
  rw [bv_snoc, hz]
  simpa using h

theorem one_new {w : World} {x : Value} (B : Nat) (hB : B = w.heap.size) : ∀ j u, ([x] : List Value)[j]? = some u → (w.alloc (.cells #[x] 5)).cell? ((⟨B, 0, none⟩ : Addr).add j) = some u := by
  subst hB
  intro j u hj
  match j, hj with
  | 0, hj => simp at hj; subst hj; simp [Addr.add]
theorem one_cell {k : IntKind} {x : Int} : ∀ u ∈ [Value.int k x], u.oneCell' = true := by
  intro u hu; simp at hu; subst hu; rfl

theorem and128 : ∀ n : Fin 256, (bits BinOp.and IntKind.u8 (n.val : Int) 128 != 0) = decide (128 ≤ n.val) := by decide +kernel
theorem or128 : ∀ n : Fin 128, bits BinOp.or IntKind.u8 (n.val : Int) 128 = ((n.val + 128 : Nat) : Int) := by decide +kernel

/-- Own's cells -/
theorem Own.form {B : Nat} {w : World} {v : Value} {xs : List UInt8} {N : Nat} (h : Own B w v xs) (hN : xs.length = N + 1) :
    ∃ g cap, v = .slice (some ⟨g, 0, none⟩) (N + 1) cap ∧ B ≤ g ∧ g < w.heap.size ∧ w.ownsRow B 5 1 (.slice (some ⟨g, 0, none⟩) (N + 1) cap) (N + 1) (bv xs) ∧ (∀ j, w.frozen? ⟨g, j, none⟩ = false) ∧ ∀ j, j < N + 1 → w.cell? ⟨g, j, none⟩ = some (.int .u8 ((xs.getD j 0).toNat : Int)) := by
  unfold Own at h
  rw [hN] at h
  obtain ⟨g, cap, rfl, h1, h2⟩ := World.ownsRow.form h (by omega)
  exact ⟨g, cap, rfl, h1, h2, h, h.frozenAt, fun j hj => by rw [h.cellAt j (by omega), bv_get _ _ (by omega)]⟩

theorem Own.set {B : Nat} {w : World} {xs : List UInt8} {N g cap : Nat} (hN : xs.length = N + 1) (h : w.ownsRow B 5 1 (.slice (some ⟨g, 0, none⟩) (N + 1) cap) (N + 1) (bv xs)) (j : Nat) (c : UInt8) {z : Int} (hz : (c.toNat : Int) = z) :
    Own B (w.setCell ⟨g, j, none⟩ (.int .u8 z)) (.slice (some ⟨g, 0, none⟩) (N + 1) cap) (xs.set j c) := by
  have := (h.stored j (.int .u8 z)).1
  unfold Own
  rw [List.length_set, hN]
  have e : (bv xs).set j (.int .u8 z) = bv (xs.set j c) := by
    simp [bv, List.map_set, hz]
  rw [← e]; exact this

end Go.Proofs.Ytbjnlcblaonccaa
