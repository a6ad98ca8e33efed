/- Slices: literals, appends, lengths, rows that were there ahead of the call, arrays as tables. -/
import Derived.Test.YtbjnlcblaonccaaInt
import Derived.Great.BuildSlice
namespace Go.Proofs.Ytbjnlcblaonccaa
open Go.RowKit

/-- what the table of types says of an element -/
def Inf (P : Program) (E : TypeId) (z : Value) (size bytes : Nat) : Prop := ∃ i, P.info? E = some i ∧ i.zero = some z ∧ i.size = size ∧ i.bytes = bytes
theorem inf_of {P : Program} {E : TypeId} {z : Value} {size bytes : Nat} (h : (P.info? E).map (fun i => (i.zero, i.size, i.bytes)) = some (some z, size, bytes)) : Inf P E z size bytes := by
  cases hi : P.info? E with
  | none => rw [hi] at h; cases h
  | some i =>
    rw [hi] at h
    simp only [Option.map_some, Option.some.injEq, Prod.mk.injEq] at h
    exact ⟨i, hi, h.1, h.2.1, h.2.2⟩

section
variable {P : Program} {Q : Exit → Act → World → Prop} {K : Act → World → Prop} {a : Act} {w : World} {o : Oper} {n : Nat} {w0 : Bs} {fs : List Sl} {bs : List Bl}
theorem op_bs0 (hs : St n w0 fs bs a w) (m mb : Option Nat) {T E : TypeId} {z : Value} {size bytes : Nat} {d : Nat} (ho : o.op = .buildSlice T 0 #[]) (hd : o.dst = some d) (hu : P.underlying T = some (.slice E)) (hi : Inf P E z size bytes)
    (hokb : okb mb bs = true) (hok : okf m fs d n = true) (h : ∀ g a' w', St n w0 (putf m fs d (.slice (some ⟨g, 0, none⟩) 0 0)) (putb mb bs (true, g, E, [])) a' w' → K a' w') : o.wp P a w K Q := by
  obtain ⟨i, hi, _, _, _⟩ := hi
  refine op_made hs m mb (v := fun g => .slice (some ⟨g, 0, none⟩) 0 0) hd ?_ hokb hok h
  unfold execOp
  rw [ho]
  simp [Instr.buildSlice, run_underlying hu, sizeOf, typeInfo, hi, newRow, Instr.fill, Sem.run_bind, Result.andThen, show Array.range 0 = #[] from Array.ext' (by simp)]
theorem op_bs1 (hs : St n w0 fs bs a w) (m mb : Option Nat) {T E : TypeId} {x : Operand} {z v : Value} {bytes : Nat} {d : Nat} (ho : o.op = .buildSlice T 1 #[(0, x)]) (hd : o.dst = some d) (hx : ev fs x = some v) (hv : v.cells = #[v]) (hu : P.underlying T = some (.slice E)) (hi : Inf P E z 1 bytes)
    (hokb : okb mb bs = true) (hok : okf m fs d n = true) (h : ∀ g a' w', St n w0 (putf m fs d (.slice (some ⟨g, 0, none⟩) 1 1)) (putb mb bs (true, g, E, [v])) a' w' → K a' w') : o.wp P a w K Q := by
  obtain ⟨i, hi, hz, hs1, _⟩ := hi
  refine op_buildSlice hs m mb (l := 1) (qs := [(0, v)]) (cs := [v]) ho hd ?_ rfl (fun w => ?_) hokb hok h
  · simp [evs, hx]
  · refine run_buildSlice w T E 1 _ _ i z hu hi hz ?_ ?_ ?_
    · rw [hs1]; decide
    · rw [hs1]; decide
    · rw [hs1]
      simp [Instr.fill, hv, show Array.range 1 = #[0] from Array.ext' (by simp [List.range_succ])]
theorem op_makeS (hs : St n w0 fs bs a w) (m mb : Option Nat) {T E : TypeId} {x y : Operand} {κ : IntKind} {bytes l : Nat} {kl kc : IntKind} {d : Nat} (ho : o.op = .makeSlice T x y) (hd : o.dst = some d) (hx : ev fs x = some (.int kl (l : Int))) (hy : ev fs y = some (.int kc (l : Int)))
    (hu : P.underlying T = some (.slice E)) (hi : Inf P E (.int κ 0) 1 bytes) (hl : l ≤ 1000000) (hby : bytes ≤ 8)
    (hokb : okb mb bs = true) (hok : okf m fs d n = true) (h : ∀ g a' w', St n w0 (putf m fs d (.slice (some ⟨g, 0, none⟩) l l)) (putb mb bs (true, g, E, tab κ l fun _ => 0)) a' w' → K a' w') : o.wp P a w K Q := by
  obtain ⟨i, hi, hz, hs1, hb1⟩ := hi
  refine op_makeSlice hs m mb (cs := tab κ l fun _ => 0) ho hd hx hy hu hi hz (Nat.le_refl _) ?_ ?_ ?_ ?_ hokb hok h
  · rw [hs1]; omega
  · rw [hb1]
    have : bytes * l ≤ 8 * 1000000 := Nat.mul_le_mul hby hl
    omega
  · omega
  · rw [hs1]
    apply Array.ext_getElem?
    intro j
    simp only [madeCells, tab]
    by_cases hj : j < l
    · have h1 : j % 1 = 0 := Nat.mod_one j
      simp [hj, Value.cells, h1]
    · simp [hj, Value.cells]
theorem blt_len {ty T E : TypeId} {ad : Option Addr} {l c : Nat} (hu : P.underlying T = some (.slice E)) : ∀ cs w, (builtin .len #[T] ty cs [Value.slice ad l c].toArray).run P w = .ok (.value (.int .i64 (l : Int))) w := by
  intro cs w
  simp [builtin, Builtin.len_, run_underlying hu, Sem.run_bind, Result.andThen, goInt]
section
variable {T : TypeId} {k : IntKind} {x y : Int}
theorem bin_lssI (w : World) : (binOp .lss T (.int k x) (.int k y)).run P w = .ok (.bool (decide (x < y))) w := by simp [binOp, Op.intCmp]
theorem bin_leqI (w : World) : (binOp .leq T (.int k x) (.int k y)).run P w = .ok (.bool (decide (x ≤ y))) w := by simp [binOp, Op.intCmp]
theorem bin_gtrI (w : World) : (binOp .gtr T (.int k x) (.int k y)).run P w = .ok (.bool (decide (y < x))) w := by simp [binOp, Op.intCmp]
theorem bin_geqI (w : World) : (binOp .geq T (.int k x) (.int k y)).run P w = .ok (.bool (decide (y ≤ x))) w := by simp [binOp, Op.intCmp]
theorem bin_eqlI (w : World) : (binOp .eql T (.int k x) (.int k y)).run P w = .ok (.bool (decide (x = y))) w := by
  have : (x == y) = decide (x = y) := by rw [Bool.eq_iff_iff]; simp
  simp [binOp, Op.intCmp, this]
theorem bin_neqI (w : World) : (binOp .neq T (.int k x) (.int k y)).run P w = .ok (.bool (decide (x ≠ y))) w := by
  have : (x != y) = decide (x ≠ y) := by rw [Bool.eq_iff_iff]; simp
  simp [binOp, Op.intCmp, this]
end
theorem blt_maxI {ts : Array TypeId} {ty : TypeId} {k : IntKind} {x y : Int} : ∀ cs w, (builtin .max ts ty cs [Value.int k x, Value.int k y].toArray).run P w = .ok (.value (.int k (max x y))) w := by
  intro cs w
  have : (if y > x then y else x) = max x y := by rw [Int.max_def]; split <;> split <;> omega
  simp [builtin, Builtin.max_, Builtin.max2, Sem.run_bind, Result.andThen, this]
theorem blt_minI {ts : Array TypeId} {ty : TypeId} {k : IntKind} {x y : Int} : ∀ cs w, (builtin .min ts ty cs [Value.int k x, Value.int k y].toArray).run P w = .ok (.value (.int k (min x y))) w := by
  intro cs w
  have : (if y < x then y else x) = min x y := by rw [Int.min_def]; split <;> split <;> omega
  simp [builtin, Builtin.min_, Builtin.min2, Sem.run_bind, Result.andThen, this]
theorem blt_maxN {ts : Array TypeId} {ty : TypeId} {k : IntKind} {x y : Nat} : ∀ cs w, (builtin .max ts ty cs [Value.int k (x : Int), Value.int k (y : Int)].toArray).run P w = .ok (.value (.int k ((max x y : Nat) : Int))) w := by
  intro cs w
  rw [blt_maxI, show max (x : Int) (y : Int) = ((max x y : Nat) : Int) by omega]
theorem blt_minN {ts : Array TypeId} {ty : TypeId} {k : IntKind} {x y : Nat} : ∀ cs w, (builtin .min ts ty cs [Value.int k (x : Int), Value.int k (y : Int)].toArray).run P w = .ok (.value (.int k ((min x y : Nat) : Int))) w := by
  intro cs w
  rw [blt_minI, show min (x : Int) (y : Int) = ((min x y : Nat) : Int) by omega]
theorem run_bsN {T E : TypeId} {z : Value} {bytes l : Nat} {parts : Array (Nat × Value)} {cs : List Value} (hu : P.underlying T = some (.slice E)) (hi : Inf P E z 1 bytes) (h1 : 0 < l) (h2 : l ≤ 1000)
    (h : Instr.fill (fun i => some (i * 1, 1)) ((Array.range (l * 1)).map (z.cells[· % z.cells.size]!)) parts.toList = some cs.toArray) (w : World) :
    (Instr.buildSlice T l parts).run P w = .ok (.slice (some ⟨w.heap.size, 0, none⟩) l l) (w.alloc (.cells cs.toArray E)) := by
  obtain ⟨i, hi, hz, hs1, _⟩ := hi
  refine run_buildSlice w T E l _ _ i z hu hi hz ?_ ?_ ?_
  · rw [hs1]; omega
  · rw [hs1]; omega
  · rw [hs1]; exact h
theorem op_callMW {F : FuncId} (hs : St n w0 fs bs a w) (m mb : Option Nat) {f : Operand} {xs : Array Operand} {ts : Array TypeId} {vs : List Value} {T : TypeId} {v : Nat → Nat → Value} {cs : List Value} {d : Nat} (ho : o.op = .call ⟨.value f, xs, ts⟩) (hd : o.dst = some d)
    (hf : ev fs f = some (.func (.func F) #[] #[])) (hx : evs fs xs.toList = some vs) (hcl : ∀ w, (callFunc F vs.toArray).run P w = .ok (.enter F vs.toArray) w)
    (hc : St n w0 fs bs a w → Calls P F vs.toArray w (Made w T v cs)) (hokb : okb mb bs = true) (hok : okf m fs d n = true)
    (h : ∀ g sp a' w', St n w0 (putf m fs d (v g (cs ++ sp).length)) (putb mb bs (true, g, T, cs ++ sp)) a' w' → K a' w') : o.wp P a w K Q := by
  have hm : xs.map a.eval = vs.toArray := by
    have := hs.evs hx
    rw [← this, ← Array.toList_map]
  unfold Oper.wp execOp
  rw [ho]
  simp only [resolve, hs.ev hf, hm, Deferred.ofValue, Sem.run_bind, Sem.run_pure, Result.andThen_ok, invoke, Array.empty_append, Array.append_empty, hcl, Oper.upon_enter, hd]
  refine (hc hs).mono ?_
  rintro e w' ⟨g, sp, rfl, hg, hb, hbl⟩
  exact h _ _ _ _ ((hs.add hokb hbl hg hb).put hok _)
/-- a whole array as a slice -/
theorem run_slA {o : Oper} {a : Act} {T E : TypeId} {x : Operand} {g N z : Nat} (ho : o.op = .slice T x none none none) (hx : a.eval x = .pointer (some ⟨g, 0, none⟩)) (ha : P.underlying T = some (.array N E)) (hz : ∀ w, (sizeOf E).run P w = .ok z w) :
    (execOp a.eval o).run P w = .ok (.value (.slice (some ⟨g, 0, none⟩) N N)) w := by
  unfold execOp
  rw [ho]
  have e : (⟨g, 0, none⟩ : Addr).add 0 = ⟨g, 0, none⟩ := by rw [Addr.add_mid]
  simp [hx, Instr.sliceAt, Sem.run_bind, run_underlying ha, Result.andThen, Instr.sureAddr, Instr.sliceBounds, hz, e]
/-- the cells of a row of the call's own -/
theorem St.cellT (hs : St n w0 fs bs a w) {k g : Nat} {T : TypeId} {κ : IntKind} {l : Nat} {f : Nat → Nat} {sp : List Value} (hb : bs[k]? = some (true, g, T, tab κ l f ++ sp)) : ∀ j, j < l → w.cell? ⟨g, j, none⟩ = some (.int κ (f j : Int)) := by
  intro j hj
  rw [cell_of_row w g j _ T _ (hs.blk hb)]
  simpa using tabs_get (k := κ) (sp := sp) hj
theorem St.cellT0 (hs : St n w0 fs bs a w) {k g : Nat} {T : TypeId} {κ : IntKind} {l : Nat} {f : Nat → Nat} (hb : bs[k]? = some (true, g, T, tab κ l f)) : ∀ j, j < l → w.cell? ⟨g, j, none⟩ = some (.int κ (f j : Int)) := by
  intro j hj
  rw [cell_of_row w g j _ T _ (hs.blk hb)]
  simpa using tab_get (k := κ) hj
/-- one integer more onto a row of the call's own -/
theorem op_app1 (hs : St n w0 fs bs a w) (m : Option Nat) (k k2 : Nat) {x y : Operand} {T E : TypeId} {z : Value} {κ : IntKind} {g g2 l bytes xv : Nat} {f : Nat → Nat} {sp : List Value} {d : Nat}
    (ho : o.op = .call ⟨.builtin .append, #[x, y], #[T, T]⟩) (hd : o.dst = some d) (hx : ev fs x = some (.slice (some ⟨g, 0, none⟩) l (tab κ l f ++ sp).length)) (hy : ev fs y = some (.slice (some ⟨g2, 0, none⟩) 1 1))
    (hb : bs[k]? = some (true, g, E, tab κ l f ++ sp)) (hb2 : bs[k2]? = some (true, g2, E, [.int κ (xv : Int)])) (hu : P.underlying T = some (.slice E)) (hi : Inf P E z 1 bytes) (hzs : z.cells.size = 1) (hby : bytes ≤ 8)
    (hcm : (tab κ l f ++ sp).length ≤ maxLen) (hl : l ≤ 1000000) (hf : f l = xv) (hok : okf m fs d n = true)
    (h : ∀ g' sp' a' w', St n w0 (putf m fs d (.slice (some ⟨g', 0, none⟩) (l + 1) (tab κ (l + 1) f ++ sp').length)) (bs.set k (true, g', E, tab κ (l + 1) f ++ sp')) a' w' → (tab κ (l + 1) f ++ sp').length ≤ maxLen → K a' w') : o.wp P a w K Q := by
  obtain ⟨i, hi, hz, hs1, hb1⟩ := hi
  have hmax : (1000001 : Nat) ≤ maxLen := by decide
  refine op_append hs m k (mm := 1) (c2 := 1) (ad := ⟨g2, 0, none⟩) (news := [.int κ (xv : Int)]) (xs := tab κ l f) (sp := sp) ho hd hx hy hb hu hi hz hs1 hb1 hzs (by decide) (by rw [tab_length, Nat.mul_one]) (by rw [Nat.mul_one]) hcm rfl ?_ ?_ (by decide) (by omega) ?_ hok ?_
  · have := hs.news hb2 (i := 0) 1
    simpa using this
  · intro u hu
    obtain rfl := List.mem_singleton.1 hu
    rfl
  · have : (l + 1) * bytes ≤ (l + 1) * 8 := Nat.mul_le_mul_left _ hby
    omega
  · intro g' c' sp' a' w' hs' hc' hm'
    rw [tab_snoc hf] at hs' hc'
    rw [Nat.mul_one] at hc'
    subst hc'
    exact h g' sp' a' w' hs' hm'
end

/-- an array of integers, as a value -/
abbrev At (κ : IntKind) (n : Nat) (f : Nat → Nat) : Value := .agg (tab κ n f).toArray
theorem at_cells {κ : IntKind} {n : Nat} {f : Nat → Nat} : (At κ n f).cells = (tab κ n f).toArray := rfl
theorem ldv_tab {κ : IntKind} {n : Nat} {f : Nat → Nat} : ldv true n (tab κ n f) 0 = some (At κ n f) := by
  unfold ldv
  rw [show Nat.ble (0 + n) (tab κ n f).length = true from Nat.ble_eq_true_of_le (by rw [tab_length]; omega)]
  simp only [cond_true, List.drop_zero]
  rw [List.take_of_length_le (by rw [tab_length]; exact Nat.le_refl _)]
theorem idx_at {P : Program} {T E : TypeId} {κ k : IntKind} {N j : Nat} {f : Nat → Nat} (hu : P.underlying T = some (.array N E)) (ha : ∀ w, (isAgg E).run P w = .ok false w) (hz : ∀ w, (sizeOf E).run P w = .ok 1 w) (hj : j < N) (w : World) :
    (Instr.index T (At κ N f) (.int k (j : Int))).run P w = .ok (.int κ (f j : Int)) w := by
  have h1 : (0 : Int) ≤ (j : Int) ∧ (j : Int) < (N : Int) := ⟨by omega, by omega⟩
  have h2 : (tab κ N f)[j]? = some (.int κ (f j : Int)) := tab_get (k := κ) hj
  simp [Instr.index, asIntOf, Sem.run_bind, run_underlying hu, Result.andThen, hz, h1, hj, part, ha, h2]
theorem wr_get : ∀ (vs cs : List Value) (i j : Nat), i + vs.length ≤ cs.length → (wr cs i vs)[j]? = if i ≤ j ∧ j < i + vs.length then vs[j - i]? else cs[j]?
  | [], cs, i, j, _ => by
    rw [wr, if_neg (by simp <;> omega)]
  | v :: vs, cs, i, j, h => by
    simp only [List.length_cons] at h
    rw [wr, wr_get vs (cs.set i v) (i + 1) j (by simp; omega)]
    by_cases h1 : i + 1 ≤ j ∧ j < i + 1 + vs.length
    · rw [if_pos h1, if_pos (by simp; omega), show j - i = (j - (i + 1)) + 1 by omega, List.getElem?_cons_succ]
    · rw [if_neg h1]
      by_cases h2 : j = i
      · subst h2
        rw [if_pos (by simp), Nat.sub_self, List.getElem?_set]
        simp; omega
      · rw [if_neg (by simp; omega), List.getElem?_set]
        rw [if_neg (fun h => h2 h.symm)]
theorem wr_all {vs cs : List Value} (h : cs.length = vs.length) : wr cs 0 vs = vs := by
  apply List.ext_getElem?
  intro j
  rw [wr_get vs cs 0 j (by omega)]
  by_cases hj : j < vs.length
  · rw [if_pos (by omega), Nat.sub_zero]
  · rw [if_neg (by omega), List.getElem?_eq_none (by omega), List.getElem?_eq_none (by omega)]
theorem wr_tab {κ : IntKind} {n : Nat} {f g : Nat → Nat} : wr (tab κ n f) 0 (tab κ n g) = tab κ n g := wr_all (by simp [tab_length])
theorem tab_length' {κ : IntKind} {n : Nat} {f : Nat → Nat} : (tab κ n f).length = n := tab_length κ n f
theorem tab_leA {κ : IntKind} {n : Nat} {f : Nat → Nat} : Nat.ble (0 + n) (tab κ n f).length = true := Nat.ble_eq_true_of_le (by rw [tab_length]; omega)
end Go.Proofs.Ytbjnlcblaonccaa
