/- Arguments opened, and read again behind a call that writes nothing that was there: lemmas of whatever program. -/
import Derived.Test.YtbjnlcblaonccaaRows
import Derived.WalkKit
import Derived.ProofKit
import Derived.OpenShut
import Derived.ChangeOld
import Derived.Below
namespace Go.Proofs.Ytbjnlcblaonccaa
open Go.ChangeShapes Go.WideShapes Go.ChangeAt Go.RowKit

section
variable {H : Type} {enc : TypeId × Value → H} {P : Program}
/-- all arguments read behind the call as they did -/
theorem trodAll_below (hl : laidOutB P = true) {W W' : World} (hb : Below W.heap.size W W') : ∀ (ts : List TypeId) (vs : List Value) (ds : List (DataW H)) (ps : List MemPlace),
    ts.all (fun t => P.readableRec t && decide (t < P.types.size)) = true → DataW.TrodAll enc P W 0 (fun _ => true) true ts vs ds ps → DataW.TrodAll enc P W' 0 (fun b => decide (b < W.heap.size)) true ts vs ds ps := by
  intro ts
  induction ts with
  | nil =>
    intro vs ds ps _ h
    obtain ⟨rfl, rfl, rfl⟩ := trodAll_nil h
    exact trodAll_mk0
  | cons t ts ih =>
    intro vs ds ps hts h
    obtain ⟨v, vs0, d, ds0, p, q, rfl, rfl, rfl, h0, r0⟩ := trodAll_cons h
    simp only [List.all_cons, Bool.and_eq_true, decide_eq_true_eq] at hts
    obtain ⟨⟨hr, ht⟩, hts⟩ := hts
    have lt0 : ∀ x ∈ p, x.block < W.heap.size := by obtain ⟨m, hm⟩ := h0; exact DataW.trod_lt m _ _ _ hm
    exact trodAll_cons_mk (Below.trod hl hr ht h0 hb lt0) (ih _ _ _ hts r0)
end

/-- a slice value that reads as bytes, of whatever length -/
def RdN (w : World) (a : Option Addr) (l : List UInt8) : Prop :=
  l.length ≠ 0 → ∃ b off, a = some ⟨b, off, none⟩ ∧ ∀ k, k < l.length → w.cell? ⟨b, off + k, none⟩ = some (.int .u8 ((l.getD k 0).toNat : Int))

theorem open_bytes {H : Type} {enc : TypeId × Value → H} {P : Program} {W : World} {base : Nat} {held : Bool} {t e : TypeId} {v : Value} {d : DataW H} {p : List MemPlace} (ht : P.underlying t = some (.slice e)) (he : P.underlying e = some (.int .u8)) (hc : P.cellsOf e = 1)
    (hv : Value.okWide P W .any 0 t v) (h : DataW.Trod enc P W base (fun _ => true) held t v d p) : ∃ a cap l, v = .slice a l.length cap ∧ RdN W a l ∧ l.length ≤ cap ∧ (a = none → cap = 0) := by
  obtain ⟨a, len, cap, rfl⟩ := okWide_slice ht hv
  obtain ⟨fuel, hf⟩ := h
  rcases open_ints ht he hc hf with ⟨hcs, _⟩ | ⟨x, l, c, zs, hcs, _, hl, hm, hz, _, hcell, hwz⟩
  · simp [Value.cells] at hcs
    obtain ⟨rfl, rfl, rfl⟩ := hcs
    exact ⟨none, 0, [], rfl, fun h => absurd rfl h, Nat.le_refl _, fun _ => rfl⟩
  · simp [Value.cells] at hcs
    obtain ⟨rfl, rfl, rfl⟩ := hcs
    rw [if_pos rfl] at hz
    have hlen : ((zs.take len).map fun z => UInt8.ofNat z.toNat).length = len := by simp; omega
    refine ⟨some x, cap, (zs.take len).map fun z => UInt8.ofNat z.toNat, by rw [hlen], fun h0 => ?_, by rw [hlen]; exact hl, fun h => by cases h⟩
    rw [hlen] at h0
    obtain ⟨b, off, rfl, hcc⟩ := ints_at hcell (by omega)
    refine ⟨b, off, rfl, fun k hk => ?_⟩
    rw [hlen] at hk
    have hkz : k < zs.length := by omega
    have h1 := hcell k hkz
    have hz1 : zs[k] ∈ zs := List.getElem_mem hkz
    have hw := hwz _ hz1
    have hb := bounds_u8 hw
    have e1 : (((zs.take len).map fun z => UInt8.ofNat z.toNat).getD k 0).toNat = zs[k].toNat := by
      rw [List.getD_eq_getElem?_getD, List.getElem?_map, List.getElem?_take_of_lt hk, List.getElem?_eq_getElem hkz]
      simp
      omega
    rw [e1]
    have e2 : zs.getD k 0 = zs[k] := by simp [List.getD, hkz]
    rw [e2] at h1
    have e3 : ((zs[k].toNat : Nat) : Int) = zs[k] := by omega
    rw [e3, ← h1]
    simp [Addr.add]
    by_cases hk0 : k = 0 <;> simp [hk0]
end Go.Proofs.Ytbjnlcblaonccaa
