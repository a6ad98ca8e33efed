/- The contract of wide.From. -/
import Derived.Test.YtmpejkhffbonnaaWCmp
namespace Go.Proofs.Ytmpejkhffbonnaa
open Go.RowKit

theorem W_small (n : Nat) (h : n < 2 ^ 64) : W n = .agg #[.int .u64 (n : Int), .int .u64 0, .int .u64 0, .int .u64 0] := by
  have h0 : lim n 0 = (n : Int) := by unfold lim; simp; omega
  have h1 : lim n 1 = 0 := by unfold lim; omega
  have h2 : lim n 2 = 0 := by unfold lim; omega
  have h3 : lim n 3 = 0 := by unfold lim; omega
  unfold W
  rw [h0, h1, h2, h3]

theorem from_any (w : World) (n : Nat) (h : n < 2 ^ 64) :
    Calls Try.prog 57 #[.int .u64 (n : Int)] w fun e w' => e = .returned (W n) ∧ Below w.heap.size w w' := by
  have HW := Lib.hid (W_small n h)
  clear h
  go_enter Try.func57, Try.ntmps57
  go_wp2
  refine bodyPost_ret (results_c rfl rfl (Blk.new _ _ _ _ rfl) rfl) rfl ⟨by rw [HW.out], bl_al (Below.refl _ _) _⟩

theorem bcell {W w1 : World} (hb : Below W.heap.size W w1) : (∀ b o, b < W.heap.size → w1.cell? ⟨b, o, none⟩ = W.cell? ⟨b, o, none⟩) ∧ (∀ b o, b < W.heap.size → w1.frozen? ⟨b, o, none⟩ = W.frozen? ⟨b, o, none⟩) :=
  ⟨fun b o h => hb.cell (p := ⟨b, o, none⟩) h, fun b o h => hb.frozen (p := ⟨b, o, none⟩) h⟩
theorem bl_set {w X : World} (h : Below w.heap.size w X) {p : Addr} (hp : w.heap.size ≤ p.block) (u : Value) : Below w.heap.size w (X.setCell p u) := h.setCell hp u

theorem cmp_at (w : World) (a b : Nat) (ha : a < 2 ^ 256) (hb : b < 2 ^ 256) (z : Int) (hz : cmpZ a b = z) :
    Calls Try.prog 77 #[W a, W b] w fun e w' => e = .returned (.int .i64 z) ∧ Below w.heap.size w w' :=
  (cmp_any w a b ha hb).mono fun e w' ⟨h1, h2⟩ => ⟨by rw [h1, hz], h2⟩
theorem sub_at (w : World) (a b d c : Nat) (ha : a < 2 ^ 256) (hb : b < 2 ^ 256) (hd : (a + 2 ^ 256 - b) % 2 ^ 256 = d) (hc : bor a b = c) :
    Calls Try.prog 82 #[W a, W b] w fun e w' => e = .returned (.tuple #[W d, .int .u64 (c : Int)]) ∧ Below w.heap.size w w' :=
  (sub_any w a b ha hb).mono fun e w' ⟨h1, h2⟩ => ⟨by rw [h1, hd, hc], h2⟩

theorem Blk.far4 {w : World} {g h : Nat} {t : TypeId} {cs : Array Value} (b : Blk w g t cs) (hne : g ≠ h) (x0 x1 x2 x3 : Value) :
    Blk ((((w.setCell ⟨h, 0, none⟩ x0).setCell ⟨h, 1, none⟩ x1).setCell ⟨h, 2, none⟩ x2).setCell ⟨h, 3, none⟩ x3) g t cs :=
  (((b.far (p := ⟨h, 0, none⟩) hne x0).far (p := ⟨h, 1, none⟩) hne x1).far (p := ⟨h, 2, none⟩) hne x2).far (p := ⟨h, 3, none⟩) hne x3
theorem Blk.facts {w : World} {g : Nat} {t : TypeId} {x0 x1 x2 x3 : Value} (b : Blk w g t #[x0, x1, x2, x3]) :
    (w.cell? ⟨g, 0, none⟩ = some x0 ∧ w.cell? ⟨g, 1, none⟩ = some x1 ∧ w.cell? ⟨g, 2, none⟩ = some x2 ∧ w.cell? ⟨g, 3, none⟩ = some x3) ∧
    (w.frozen? ⟨g, 0, none⟩ = false ∧ w.frozen? ⟨g, 1, none⟩ = false ∧ w.frozen? ⟨g, 2, none⟩ = false ∧ w.frozen? ⟨g, 3, none⟩ = false) :=
  ⟨⟨b.cell 0, b.cell 1, b.cell 2, b.cell 3⟩, b.frozen 0, b.frozen 1, b.frozen 2, b.frozen 3⟩
theorem bl_set4 {w X : World} (b : Below w.heap.size w X) {h : Nat} (hh : w.heap.size ≤ h) (x0 x1 x2 x3 : Value) :
    Below w.heap.size w ((((X.setCell ⟨h, 0, none⟩ x0).setCell ⟨h, 1, none⟩ x1).setCell ⟨h, 2, none⟩ x2).setCell ⟨h, 3, none⟩ x3) :=
  bl_set (bl_set (bl_set (bl_set b (p := ⟨h, 0, none⟩) hh x0) (p := ⟨h, 1, none⟩) hh x1) (p := ⟨h, 2, none⟩) hh x2) (p := ⟨h, 3, none⟩) hh x3
/-- a block behind a call that changes nothing old -/
theorem Blk.keep {W w1 : World} {g : Nat} {t : TypeId} {cs : Array Value} (b : Blk W g t cs) (hb : Below W.heap.size W w1) : Blk w1 g t cs := b.below hb b.lt
end Go.Proofs.Ytmpejkhffbonnaa
