/- Arguments that lie in memory, opened as entries: byte strings, rows. -/
import Derived.Test.YtbjnlcblaonccaaFrame
import Derived.Test.YtbjnlcblaonccaaApp
namespace Go.Proofs.Ytbjnlcblaonccaa
open Go.ChangeShapes Go.WideShapes Go.ChangeAt Go.RowKit
section
variable {H : Type} {enc : TypeId × Value → H} {P : Program} {w : World} {base : Nat} {sp : Nat → Bool} {held : Bool}
theorem trod_bytes {t e : TypeId} {m : Nat} {cs : List Value} {x : DataW H × List MemPlace} (ht : P.underlying t = some (.slice e)) (he : P.underlying e = some (.int .u8)) (hc : P.cellsOf e = 1)
    (h : DataW.trod enc P w base sp held m t cs = some x) : ∃ a c l, cs = [.slice a l.length c] ∧ ByV w (fun _ => True) (.slice a l.length c) l := by
  rcases open_ints ht he hc h with ⟨rfl, _⟩ | ⟨x, len, c, zs, rfl, _, hl, hm, hz, _, hcell, hwz⟩
  · exact ⟨none, 0, [], rfl, celv_nil⟩
  · have hzl : len ≤ zs.length := by rw [hz]; split <;> omega
    have hlen : ((zs.take len).map fun z => UInt8.ofNat z.toNat).length = len := by simp; omega
    refine ⟨some x, c, (zs.take len).map fun z => UInt8.ofNat z.toNat, by rw [hlen], ⟨some x, c, by rw [hlen], by rw [hlen]; exact hl, hm, (fun h => by cases h), fun j u hu => ?_⟩⟩
    have hj : j < len := by
      have := (List.getElem?_eq_some_iff.1 hu).1
      rw [bcs_length, hlen] at this; exact this
    obtain ⟨b, off, rfl, hcc⟩ := ints_at hcell (by omega)
    refine ⟨b, off, rfl, trivial, ?_⟩
    have hjz : j < zs.length := by omega
    rw [hcc j hjz]
    have hb := bounds_u8 (hwz _ (List.getElem_mem hjz))
    rw [bcs_get (by rw [hlen]; exact hj)] at hu
    have e1 : ((byt ((zs.take len).map fun z => UInt8.ofNat z.toNat) j : Nat) : Int) = zs[j] := by
      unfold byt
      rw [List.getD_eq_getElem?_getD, List.getElem?_map, List.getElem?_take_of_lt hj, List.getElem?_eq_getElem hjz]
      simp
      omega
    rw [e1] at hu
    rw [← hu]
    simp [List.getD, hjz]
theorem open_by {t e : TypeId} {v : Value} {d : DataW H} {p : List MemPlace} (ht : P.underlying t = some (.slice e)) (he : P.underlying e = some (.int .u8)) (hc : P.cellsOf e = 1)
    (hv : Value.okWide P w .any 0 t v) (h : DataW.Trod enc P w base sp held t v d p) : ∃ a c l, v = .slice a l.length c ∧ ByV w (fun _ => True) (.slice a l.length c) l := by
  obtain ⟨a, len, cap, rfl⟩ := okWide_slice ht hv
  obtain ⟨fuel, hf⟩ := h
  obtain ⟨a', c, l, h1, h2⟩ := trod_bytes ht he hc hf
  simp [Value.cells] at h1
  obtain ⟨rfl, rfl, rfl⟩ := h1
  exact ⟨_, _, _, rfl, h2⟩
theorem choose_list {α : Type} (n : Nat) (R : Nat → α → Prop) (h : ∀ i, i < n → ∃ x, R i x) : ∃ l : List α, l.length = n ∧ ∀ i x, l[i]? = some x → R i x := by
  induction n with
  | zero => exact ⟨[], rfl, fun i x hx => by simp at hx⟩
  | succ n ih =>
    obtain ⟨l, hl, hr⟩ := ih fun i hi => h i (by omega)
    obtain ⟨x, hx⟩ := h n (by omega)
    refine ⟨l ++ [x], by simp [hl], fun i y hy => ?_⟩
    by_cases hi : i < n
    · rw [List.getElem?_append_left (by omega)] at hy; exact hr i y hy
    · have := (List.getElem?_eq_some_iff.1 hy).1
      simp at this
      obtain rfl : i = n := by omega
      rw [List.getElem?_append_right (by omega), hl] at hy
      simp at hy
      subst hy; exact hx
theorem cell_spot {a : Addr} {v : Value} (h : w.cell? a = some v) : ∃ b off, a = ⟨b, off, none⟩ := by
  obtain ⟨b, off, spot⟩ := a
  have hspot : spot = none := World.cell?_spot h
  subst hspot
  exact ⟨b, off, rfl⟩
/-- a row, element by element -/
theorem trod_row {t e : TypeId} {m z : Nat} {cs : List Value} {x : DataW H × List MemPlace} (ht : P.underlying t = some (.slice e)) (hz : P.cellsOf e = z)
    (h : DataW.trod enc P w base sp held m t cs = some x) : ∃ a len c, cs = [.slice a len c] ∧ len ≤ c ∧ c ≤ maxLen ∧ (a = none → c = 0) ∧
      ∀ i, i < len → ∃ ad n ys y, a = some ad ∧ ys.length = z ∧ (∀ j, j < z → w.cell? (ad.add (i * z + j)) = ys[j]?) ∧ DataW.trod enc P w base sp held n e ys = some y := by
  rcases DataW.trod_slice ht h with ⟨rfl, _⟩ | ⟨a, len, cap, elems, rest, n, _, rfl, _, hb, hl, hm, hlen, hel, _, _⟩
  · exact ⟨none, 0, 0, rfl, Nat.le_refl _, Nat.zero_le _, fun _ => rfl, fun i hi => absurd hi (by omega)⟩
  · refine ⟨some a, len, cap, rfl, hl, hm, (fun h => by cases h), fun i hi => ?_⟩
    have h1 := hel i hi
    rw [List.getElem?_eq_getElem (by omega), hz, Option.bind_eq_some_iff] at h1
    obtain ⟨ys, hys, hy⟩ := h1
    obtain ⟨_, h2, h3⟩ := World.cells?_some hys
    refine ⟨a, n, ys, _, rfl, h2, fun j hj => ?_, hy⟩
    rw [← h3 j hj, Addr.add_add]
end
end Go.Proofs.Ytbjnlcblaonccaa
