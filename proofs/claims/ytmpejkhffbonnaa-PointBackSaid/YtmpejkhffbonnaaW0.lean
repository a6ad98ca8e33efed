/- Numbers of 256 bits as values: four words. -/
import Derived.Test.YtmpejkhffbonnaaRows
import Derived.WalkKit
import Derived.Below
import Derived.Outline
import Derived.Lib.Hide
import Derived.OwnWalk
import Derived.Laws.Rows
import Derived.StillTailTactics
import Derived.Deep.RegionWith
import Derived.Laws.Externs
namespace Go.Proofs.Ytmpejkhffbonnaa
open Go.RowKit

/-- a word of a number: 64 bits from place 64 k on -/
def lim (n k : Nat) : Int := ((n / 2 ^ (64 * k) % 2 ^ 64 : Nat) : Int)
/-- a number of 256 bits as a value -/
abbrev W (n : Nat) : Value := .agg #[.int .u64 (lim n 0), .int .u64 (lim n 1), .int .u64 (lim n 2), .int .u64 (lim n 3)]
/-- its cells -/
abbrev Wc (n : Nat) : Array Value := #[.int .u64 (lim n 0), .int .u64 (lim n 1), .int .u64 (lim n 2), .int .u64 (lim n 3)]

/-- a block that is known whole -/
def Blk (w : World) (g : Nat) (t : TypeId) (cs : Array Value) : Prop := w.heap[g]? = some (.cells cs t (0, 0))
section
variable {w w' : World} {g : Nat} {t : TypeId} {cs : Array Value}
theorem Blk.lt (h : Blk w g t cs) : g < w.heap.size := by
  rcases Nat.lt_or_ge g w.heap.size with hlt | hge
  · exact hlt
  · unfold Blk at h; rw [Array.getElem?_eq_none hge] at h; cases h
theorem Blk.cell (h : Blk w g t cs) (i : Nat) : w.cell? ⟨g, i, none⟩ = cs[i]? := cell_of_row w g i cs t (0, 0) h
theorem Blk.frozen (h : Blk w g t cs) (i : Nat) : w.frozen? ⟨g, i, none⟩ = false := by
  unfold Blk at h
  simp [World.frozen?, h]
theorem Blk.new (w : World) (t : TypeId) (cs : Array Value) (g : Nat) (hg : g = w.heap.size) : Blk (w.alloc (.cells cs t)) g t cs := by subst hg; exact heap_alloc_new w _
theorem Blk.drew (h : Blk w g t cs) : Blk w.drew g t cs := h
theorem Blk.alloc (h : Blk w g t cs) (o : Obj) : Blk (w.alloc o) g t cs := (Below.heap_alloc w o g h.lt).trans h
theorem Blk.set_ (h : Blk w g t cs) (i : Nat) (u : Value) : Blk (w.setCell ⟨g, i, none⟩ u) g t (cs.setIfInBounds i u) := by
  unfold Blk at h ⊢
  simp [World.setCell, Array.getElem?_modify, h]
theorem Blk.far (h : Blk w g t cs) {p : Addr} (hp : g ≠ p.block) (u : Value) : Blk (w.setCell p u) g t cs := (Below.heap_setCell w p u g hp).trans h
theorem Blk.below {B : Nat} (h : Blk w g t cs) (hb : Below B w w') (hg : g < B) : Blk w' g t cs := (hb.block g hg).trans h
end

/-- four words -/
abbrev arr (f : Nat → Int) : Array Value := #[.int .u64 (f 0), .int .u64 (f 1), .int .u64 (f 2), .int .u64 (f 3)]
theorem arr_get (f : Nat → Int) (k : Nat) (h : k < 4) : (arr f)[k]? = some (.int .u64 (f k)) := by
  match k, h with
  | 0, _ => rfl
  | 1, _ => rfl
  | 2, _ => rfl
  | 3, _ => rfl
def upd (f : Nat → Int) (k : Nat) (x : Int) : Nat → Int := fun j => if j = k then x else f j
theorem arr_set (f : Nat → Int) (k : Nat) (h : k < 4) (x : Int) : (arr f).setIfInBounds k (.int .u64 x) = arr (upd f k x) := by
  match k, h with
  | 0, _ => rfl
  | 1, _ => rfl
  | 2, _ => rfl
  | 3, _ => rfl

theorem lim_lo (n k : Nat) : 0 ≤ lim n k := by unfold lim; omega
theorem lim_hi (n k : Nat) : lim n k ≤ 18446744073709551615 := by unfold lim; omega
theorem lim_mod (n k : Nat) (h : k < 4) : lim (n % 2 ^ 256) k = lim n k := by
  unfold lim
  congr 1
  match k, h with
  | 0, _ => omega
  | 1, _ => omega
  | 2, _ => omega
  | 3, _ => omega
theorem W_of (f : Nat → Int) (n : Nat) (h : ∀ j, j < 4 → f j = lim n j) : Value.agg (arr f) = W n := by
  unfold W arr
  rw [h 0 (by omega), h 1 (by omega), h 2 (by omega), h 3 (by omega)]
theorem W_mod (n : Nat) : W (n % 2 ^ 256) = W n := by
  unfold W
  rw [lim_mod n 0 (by omega), lim_mod n 1 (by omega), lim_mod n 2 (by omega), lim_mod n 3 (by omega)]

theorem load_blk {w : World} {g : Nat} {t : TypeId} {cs : Array Value} (h : Blk w g t cs) (hs : cs.size = 4) : (loadVar 24 ⟨g, 0, none⟩).run Try.prog w = .ok (.agg cs) w :=
  run_loadVar_row w g t 24 cs (0, 0) _ h Try.underlying24 rfl (by rw [hs]; kernel_rfl)
section
variable {fn : Func} {p q u : Tmp} {tmps : Array Value} {w : World} {g g' : Nat} {t t' : TypeId} {cs cs' : Array Value}
theorem results_c (h : fn.results = #[.cell p 24]) (hp : tmps.getD p undef = .pointer (some ⟨g, 0, none⟩)) (hb : Blk w g t cs) (hs : cs.size = 4) :
    (results fn tmps).run Try.prog w = .ok (.agg cs) w := by
  have hp' : tmps[p]?.getD undef = .pointer (some ⟨g, 0, none⟩) := by simpa using hp
  simp [results, h, hp', asAddr, load_blk hb hs]
theorem results_cu (h : fn.results = #[.cell p 24, .tmp u]) (hp : tmps.getD p undef = .pointer (some ⟨g, 0, none⟩)) (hb : Blk w g t cs) (hs : cs.size = 4) :
    (results fn tmps).run Try.prog w = .ok (.tuple #[.agg cs, tmps.getD u undef]) w := by
  rw [results_cell_tmp h, hp]
  simp [asAddr, load_blk hb hs, Result.andThen]
theorem results_cc (h : fn.results = #[.cell p 24, .cell q 24]) (hp : tmps.getD p undef = .pointer (some ⟨g, 0, none⟩)) (hb : Blk w g t cs) (hs : cs.size = 4)
    (hq : tmps.getD q undef = .pointer (some ⟨g', 0, none⟩)) (hb' : Blk w g' t' cs') (hs' : cs'.size = 4) :
    (results fn tmps).run Try.prog w = .ok (.tuple #[.agg cs, .agg cs']) w := by
  have hp' : tmps[p]?.getD undef = .pointer (some ⟨g, 0, none⟩) := by simpa using hp
  have hq' : tmps[q]?.getD undef = .pointer (some ⟨g', 0, none⟩) := by simpa using hq
  simp [results, h, hp', hq', asAddr, load_blk hb hs, load_blk hb' hs', Sem.run_bind, Result.andThen]
theorem results_ccu (h : fn.results = #[.cell p 24, .cell q 24, .tmp u]) (hp : tmps.getD p undef = .pointer (some ⟨g, 0, none⟩)) (hb : Blk w g t cs) (hs : cs.size = 4)
    (hq : tmps.getD q undef = .pointer (some ⟨g', 0, none⟩)) (hb' : Blk w g' t' cs') (hs' : cs'.size = 4) :
    (results fn tmps).run Try.prog w = .ok (.tuple #[.agg cs, .agg cs', tmps.getD u undef]) w := by
  have hp' : tmps[p]?.getD undef = .pointer (some ⟨g, 0, none⟩) := by simpa using hp
  have hq' : tmps[q]?.getD undef = .pointer (some ⟨g', 0, none⟩) := by simpa using hq
  simp [results, h, hp', hq', asAddr, load_blk hb hs, load_blk hb' hs', Sem.run_bind, Result.andThen]
end
/-- four stores fill a block -/
theorem Blk.fill {w : World} {g : Nat} {t : TypeId} {cs : Array Value} (h : Blk w g t cs) (hs : cs.size = 4) (x0 x1 x2 x3 : Value) :
    Blk ((((w.setCell ⟨g, 0, none⟩ x0).setCell ⟨g, 1, none⟩ x1).setCell ⟨g, 2, none⟩ x2).setCell ⟨g, 3, none⟩ x3) g t #[x0, x1, x2, x3] := by
  have := (((h.set_ 0 x0).set_ 1 x1).set_ 2 x2).set_ 3 x3
  obtain ⟨l⟩ := cs
  match l, hs with
  | [a, b, c, d], _ => exact this
end Go.Proofs.Ytmpejkhffbonnaa
