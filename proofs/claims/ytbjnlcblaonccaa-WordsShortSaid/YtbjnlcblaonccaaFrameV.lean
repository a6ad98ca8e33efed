/- Arguments that are words of scripts, and rows of them, opened. -/
import Derived.Test.YtbjnlcblaonccaaFrameE
import Derived.Test.YtbjnlcblaonccaaWdP
namespace Go.Proofs.Ytbjnlcblaonccaa
open Go.ChangeShapes Go.WideShapes Go.ChangeAt Go.RowKit
section
variable {H : Type} {enc : TypeId × Value → H} {w : World} {base : Nat} {sp : Nat → Bool} {held : Bool}
theorem wcl_at {ts : List (Wd × Value)} {j : Nat} {u : Value} (h : (wcl (ts.map (·.1)) (ts.map (·.2)))[j]? = some u) : ∃ i x, ts[i]? = some x ∧ (j = i * 2 ∧ u = .int .u8 (x.1.1 : Int) ∨ j = i * 2 + 1 ∧ u = x.2) := by
  have hl := (List.getElem?_eq_some_iff.1 h).1
  rw [wcl_length _ _ (by simp)] at hl
  simp only [List.length_map] at hl
  have hi : j / 2 < ts.length := by omega
  refine ⟨j / 2, ts[j / 2], List.getElem?_eq_getElem hi, ?_⟩
  obtain ⟨a, b⟩ := wcl_get (ts.map (·.1)) (ts.map (·.2)) (j / 2) ts[j / 2].1 ts[j / 2].2 (by simp [hi]) (by simp [hi])
  by_cases hj : j % 2 = 0
  · left
    have e : j = j / 2 * 2 := by omega
    refine ⟨e, ?_⟩
    rw [← e, h] at a
    exact Option.some.inj a
  · right
    have e : j = j / 2 * 2 + 1 := by omega
    refine ⟨e, ?_⟩
    rw [← e, h] at b
    exact Option.some.inj b
theorem trod_u8 {m : Nat} {cs : List Value} {x : DataW H × List MemPlace} (h : DataW.trod enc Try.prog w base sp held m 5 cs = some x) : ∃ z : Nat, cs = [.int .u8 (z : Int)] ∧ z < 256 := by
  obtain ⟨n, rfl, _, hw⟩ := DataW.trod_int Try.underlying5 h
  have c := bounds_u8 hw
  obtain ⟨y, rfl⟩ := Int.eq_ofNat_of_zero_le c.1
  exact ⟨y, rfl, by omega⟩
theorem trod_word {m : Nat} {cs : List Value} {x : DataW H × List MemPlace} (h : DataW.trod enc Try.prog w base sp held m 25 cs = some x) :
    ∃ (o : Nat) (a : Option Addr) (c : Nat) (l : List UInt8), cs = [.int .u8 (o : Int), .slice a l.length c] ∧ o < 256 ∧ ByV w (fun _ => True) (.slice a l.length c) l := by
  cases m with
  | zero => simp [DataW.trod] at h
  | succ m =>
    rw [DataW.trod_step] at h
    unfold DataW.trodStep at h
    have c0 : Try.prog.cellsOf 25 = 2 := by kernel_rfl
    have c1 : Try.prog.cellsOf 5 = 1 := by kernel_rfl
    have c2 : Try.prog.cellsOf 22 = 1 := by kernel_rfl
    simp only [Try.underlying25, c0] at h
    split at h
    · rename_i hl
      simp only [Option.map_eq_some_iff, List.mapM_cons, List.mapM_nil, bind, Option.bind_eq_some_iff, pure, Option.some.injEq] at h
      obtain ⟨ys, ⟨y0, h0, ys1, ⟨y1, h1, _⟩, _⟩, _⟩ := h
      rw [c1] at h0
      rw [c2] at h1
      obtain ⟨o, ho, lo⟩ := trod_u8 h0
      obtain ⟨a, c, l, hq, hb⟩ := trod_bytes Try.underlying22 Try.underlying5 (by kernel_rfl) h1
      refine ⟨o, a, c, l, ?_, lo, hb⟩
      match cs, hl with
      | [u, v], _ =>
        simp at ho hq
        rw [ho, hq]
    · cases h
theorem open_word {v : Value} {d : DataW H} {ps : List MemPlace} (hval : Value.okWide Try.prog w .any 0 25 v) (hd : DataW.Trod enc Try.prog w base sp held 25 v d ps) :
    ∃ (o : Nat) (a : Option Addr) (c : Nat) (l : List UInt8), v = .agg #[.int .u8 (o : Int), .slice a l.length c] ∧ o < 256 ∧ ByV w (fun _ => True) (.slice a l.length c) l := by
  have hu : ∃ fs, Try.prog.underlying 25 = some (.struct fs) := ⟨_, Try.underlying25⟩
  obtain ⟨fs, hu⟩ := hu
  obtain ⟨xs, rfl, _⟩ := okWide_struct hu hval
  obtain ⟨fuel, hf⟩ := hd
  obtain ⟨o, a, c, l, h1, h2, h3⟩ := trod_word hf
  exact ⟨o, a, c, l, congrArg Value.agg (Array.toList_inj.1 h1), h2, h3⟩
theorem open_words {v : Value} {d : DataW H} {ps : List MemPlace} (hval : Value.okWide Try.prog w .any 0 29 v) (hd : DataW.Trod enc Try.prog w base sp held 29 v d ps) :
    ∃ (a : Option Addr) (c : Nat) (ws : List Wd) (vs : List Value), v = .slice a ws.length c ∧ CelV w (fun _ => True) (.slice a ws.length c) ws.length (wcl ws vs) ∧ BysV w (fun _ => True) vs (ws.map Prod.snd) ∧ ∀ x ∈ ws, x.1 < 256 := by
  obtain ⟨a, len, c, rfl⟩ := okWide_slice Try.underlying29 hval
  obtain ⟨fuel, hf⟩ := hd
  obtain ⟨a', len', c', h1, hl, hm, hn, hr⟩ := trod_row (z := 2) Try.underlying29 (by kernel_rfl) hf
  simp [Value.cells] at h1
  obtain ⟨rfl, rfl, rfl⟩ := h1
  have hr2 : ∀ i, i < len → ∃ x : Wd × Value, (x.1.1 < 256 ∧ ByV w (fun _ => True) x.2 x.1.2 ∧ ∃ ad, a = some ad ∧ w.cell? (ad.add (i * 2)) = some (.int .u8 (x.1.1 : Int)) ∧ w.cell? (ad.add (i * 2 + 1)) = some x.2) := by
    intro i hi
    obtain ⟨ad, n, ys, y, ha, hy, hc, ht⟩ := hr i hi
    obtain ⟨o, b, cc, l, rfl, h2, h3⟩ := trod_word ht
    exact ⟨((o, l), .slice b l.length cc), h2, h3, ad, ha, hc 0 (by omega), hc 1 (by omega)⟩
  obtain ⟨ts, hlen, hts⟩ := choose_list len _ hr2
  refine ⟨a, c, ts.map (·.1), ts.map (·.2), by simp [hlen], ⟨a, c, rfl, by simpa [hlen] using hl, hm, hn, fun j u hu => ?_⟩, ⟨by simp, fun i v l hv hl2 => ?_⟩, fun x hx => ?_⟩
  · obtain ⟨i, x, hx, hj⟩ := wcl_at hu
    obtain ⟨_, _, ad, rfl, h2, h3⟩ := hts i x hx
    have hlen0 : 0 < ts.length := by have := (List.getElem?_eq_some_iff.1 hx).1; omega
    obtain ⟨_, _, ad', e, h4, _⟩ := hts 0 _ (List.getElem?_eq_getElem hlen0)
    obtain rfl := Option.some.inj e
    rw [Nat.zero_mul] at h4
    have h5 : w.cell? ad = some (.int .u8 (ts[0].1.1 : Int)) := by simpa [Addr.add] using h4
    obtain ⟨b, off, rfl⟩ := cell_spot h5
    rw [Addr.add_mid] at h2 h3
    refine ⟨b, off, rfl, trivial, ?_⟩
    rcases hj with ⟨rfl, rfl⟩ | ⟨rfl, rfl⟩
    · exact h2
    · exact h3
  · rw [List.getElem?_map, Option.map_eq_some_iff] at hv
    obtain ⟨x, hx, rfl⟩ := hv
    rw [List.map_map, List.getElem?_map, hx] at hl2
    obtain rfl : x.1.2 = l := by simpa using hl2
    exact (hts i x hx).2.1
  · obtain ⟨y, hy, rfl⟩ := List.mem_map.1 hx
    obtain ⟨i, hi⟩ := List.getElem?_of_mem hy
    exact (hts i y hi).1
end
end Go.Proofs.Ytbjnlcblaonccaa
