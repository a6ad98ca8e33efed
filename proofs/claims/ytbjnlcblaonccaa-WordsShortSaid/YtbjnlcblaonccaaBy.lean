/- Byte strings and rows that lie beside a state's blocks: what operations do to them. -/
import Derived.Test.YtbjnlcblaonccaaSl0
import Derived.Laws.OwnMore
import Derived.Laws.IdiomStrings
import Derived.Laws.Concat
import Derived.Maps.AppendAt
namespace Go.Proofs.Ytbjnlcblaonccaa
open Go.RowKit
def rowAt (S : List (Bool × Fz)) (k : Nat) : Option (Value × Nat × List Value) :=
  match S[k]? with
  | some (true, .cel v n cs) => some (v, n, cs)
  | some (true, .own v _ _ n xs) => some (v, n, xs)
  | _ => none
/-- the address of an element; a part of a slice -/
def vidx (v : Value) (i : Nat) : Value :=
  match v with
  | .slice (some a) _ _ => .pointer (some (a.add i))
  | _ => .pointer none
def vsl (v : Value) (z i h : Nat) : Value :=
  match v with
  | .slice a _ c => .slice (if c = i then a else a.map (·.add (i * z))) (h - i) (c - i)
  | v => v
theorem own_cel {w : World} {base : Nat} {E : TypeId} {size n : Nat} {v : Value} {xs : List Value} {Z : Nat → Prop} (h : w.ownsRow base E size v n xs) (hZ : ∀ g, v.ownBlock = some g → Z g) : CelV w Z v n xs := by
  rcases h.2 with ⟨rfl, rfl⟩ | ⟨g, cap, cur, rfl, hb, hh, hn, hc, hs, hx⟩
  · have : xs = [] := by have := h.1; simpa using this
    subst this
    exact ⟨none, 0, rfl, Nat.le_refl _, Nat.zero_le _, fun _ => rfl, fun j u hu => by simp at hu⟩
  · refine ⟨some ⟨g, 0, none⟩, cap, rfl, hn, hc, (fun h => by cases h), fun j u hu => ⟨g, 0, rfl, hZ g rfl, ?_⟩⟩
    rw [← hx, List.getElem?_take] at hu
    split at hu
    · rw [Nat.zero_add, cell_of_row w g j cur E _ hh]
      simpa using hu
    · cases hu
theorem CelV.any {w : World} {Z Z' : Nat → Prop} {v : Value} {n : Nat} {cs : List Value} (h : CelV w Z v n cs) (hz : ∀ g, Z g → Z' g) : CelV w Z' v n cs := h.mono fun g hg _ => ⟨hz g hg, rfl⟩
section
variable {P : Program} {Q : Exit → Act → World → Prop} {K : Act → World → Prop} {a : Act} {w : World} {o : Oper} {n : Nat} {w0 : Bs} {fs : List Sl} {bs : List Bl}
/-- the blocks that a call's answers may lie in -/
def Zall (w0 : Bs) (bs : List Bl) (g : Nat) : Prop :=
  (w0.Z g ∨ w0.B g) ∧ (∀ (j : Nat) (b : Bl), bs[j]? = some b → b.1 = true → b.2.1 ≠ g) ∧ ∀ (j : Nat) (e : Bool × Fz), w0.S[j]? = some e → e.1 = true → ¬ e.2.owns g
theorem St.row (hs : St n w0 fs bs a w) {k N : Nat} {v : Value} {cs : List Value} (h : rowAt w0.S k = some (v, N, cs)) : CelV w (fun _ => True) v N cs := by
  unfold rowAt at h
  split at h
  · rename_i v' n' cs' hk
    obtain ⟨rfl, rfl, rfl⟩ : v' = v ∧ n' = N ∧ cs' = cs := by simpa using h
    exact CelV.any (hs.fz k _ hk rfl) fun _ _ => trivial
  · rename_i v' E sz n' xs hk
    obtain ⟨rfl, rfl, rfl⟩ : v' = v ∧ n' = N ∧ xs = cs := by simpa using h
    exact own_cel (hs.fz k _ hk rfl).1 fun _ _ => trivial
  · cases h
/-- what an entry says, to a call -/
theorem St.all (hs : St n w0 fs bs a w) {k : Nat} {e : Fz} (h : w0.S[k]? = some (true, e)) (ho : e.ownless = true) : e.ok w (Zall w0 bs) w0.B := by
  have h1 := hs.fz k _ h rfl
  have h2 : e.ok w (Zall w0 bs) w0.B := Fz.ok_mono (fun _ _ h => h) (fun g hg _ => ⟨⟨hg.1, hg.2.1, fun j e' hj hf => by
    by_cases hjk : j = k
    · subst hjk
      rw [h] at hj
      obtain rfl := Option.some.inj hj
      exact Fz.ownless_no ho g
    · exact hg.2.2 j e' hjk hj hf⟩, rfl⟩) h1
  cases e with
  | cel v N cs => exact h2
  | bys vs ls => exact h2
  | own v E size N xs => cases ho
  | bysO G vs ls => cases ho
  | wrs G vs ns => cases ho
theorem op_valW (hs : St n w0 fs bs a w) {v : Value} (m : Option Nat) {d : Nat} (hd : o.dst = some d) (hok : okf m fs d n = true) (hr : (execOp a.eval o).run P w = .ok (.value v) w)
    (h : ∀ a', St n w0 (putf m fs d v) bs a' w → K a' w) : o.wp P a w K Q := op_val hs m hd hok hr h
theorem op_lenC (hs : St n w0 fs bs a w) (m : Option Nat) (k : Nat) {x : Operand} {T E : TypeId} {v : Value} {N : Nat} {cs : List Value} {d : Nat} (ho : o.op = .call ⟨.builtin .len, #[x], #[T]⟩) (hd : o.dst = some d) (hx : ev fs x = some v)
    (hk : rowAt w0.S k = some (v, N, cs)) (hu : P.underlying T = some (.slice E)) (hok : okf m fs d n = true)
    (h : ∀ a', St n w0 (putf m fs d (.int .i64 (N : Int))) bs a' w → K a' w) : o.wp P a w K Q := by
  obtain ⟨ad, c, rfl, _⟩ := hs.row hk
  exact op_blt hs m (vs := [.slice ad N c]) ho hd (by simp [evs, hx]) (blt_len hu) hok h
theorem op_idxC (hs : St n w0 fs bs a w) (m : Option Nat) (k : Nat) {T E : TypeId} {x y : Operand} {v : Value} {z N : Nat} {cs : List Value} {κ : IntKind} {j : Nat} {d : Nat} (ho : o.op = .indexAddr T x y) (hd : o.dst = some d) (hx : ev fs x = some v) (hy : ev fs y = some (.int κ (j : Int)))
    (hk : rowAt w0.S k = some (v, N, cs)) (hu : P.underlying T = some (.slice E)) (hz : ∀ w, (sizeOf E).run P w = .ok z w) (hj : j < N) {off : Nat} (hoff : j * z = off) (hok : okf m fs d n = true)
    (h : ∀ a', St n w0 (putf m fs d (vidx v off)) bs a' w → K a' w) : o.wp P a w K Q := by
  obtain ⟨ad, c, rfl, hN, _, hn, _⟩ := hs.row hk
  subst hoff
  cases ad with
  | none => have := hn rfl; omega
  | some ad =>
    refine op_val hs m hd hok ?_ h
    unfold execOp
    rw [ho]
    have h1 : (0 : Int) ≤ (j : Int) ∧ (j : Int) < (N : Int) := ⟨by omega, by omega⟩
    simp [hs.ev hx, hs.ev hy, Instr.indexAt, asIntOf, Sem.run_bind, run_underlying hu, Result.andThen, hz, h1, hj, vidx]
theorem op_loadC (hs : St n w0 fs bs a w) (m : Option Nat) (k : Nat) {t : TypeId} {x : Operand} {v : Value} {i N : Nat} {cs : List Value} {ag : Bool} {z : Nat} {u : Value} {d : Nat} (ho : o.op = .load t x) (hd : o.dst = some d)
    (hx : ev fs x = some (vidx v i)) (hk : rowAt w0.S k = some (v, N, cs)) (hu : ∀ w, (isAgg t).run P w = .ok ag w) (hz : ∀ w, (sizeOf t).run P w = .ok z w) (hz0 : 0 < z) (hl : ldv ag z cs i = some u) (hok : okf m fs d n = true)
    (h : ∀ a', St n w0 (putf m fs d u) bs a' w → K a' w) : o.wp P a w K Q := by
  obtain ⟨ad, c, rfl, hN, _, hn, hc⟩ := hs.row hk
  have hlt : i < cs.length := by
    cases ag with
    | false =>
      simp only [ldv, cond_false] at hl
      exact (List.getElem?_eq_some_iff.1 hl).1
    | true =>
      simp only [ldv, cond_true] at hl
      cases hb : Nat.ble (i + z) cs.length with
      | true => have := Nat.le_of_ble_eq_true hb; omega
      | false => rw [hb] at hl; simp at hl
  obtain ⟨g, off, rfl, _, _⟩ := hc i cs[i] (by simp [hlt])
  have hc' : ∀ (j : Nat) (u : Value), cs[j]? = some u → w.cell? ⟨g, off + j, none⟩ = some u := fun j u hu => by
    obtain ⟨g', off', e, _, h3⟩ := hc j u hu
    obtain ⟨rfl, rfl⟩ : g = g' ∧ off = off' := by simpa using e
    exact h3
  refine op_val hs m hd hok ?_ h
  unfold execOp
  rw [ho]
  have hp : a.eval x = .pointer (some ⟨g, off + i, none⟩) := by rw [hs.ev hx]; simp [vidx, Addr.add_mid]
  have hrun : (loadVar t ⟨g, off + i, none⟩).run P w = .ok u w := by
    unfold loadVar
    rw [Sem.run_bind, hu]
    simp only [Result.andThen_ok]
    cases ag with
    | false =>
      simp only [ldv, cond_false] at hl
      simp only [Bool.false_eq_true, if_false]
      simp [hc' i u hl]
    | true =>
      simp only [ldv, cond_true] at hl
      have hle : i + z ≤ cs.length := by
        cases hb : Nat.ble (i + z) cs.length with
        | true => exact Nat.le_of_ble_eq_true hb
        | false => rw [hb] at hl; simp at hl
      rw [show Nat.ble (i + z) cs.length = true from Nat.ble_eq_true_of_le hle] at hl
      simp only [cond_true, Option.some.injEq] at hl
      subst hl
      simp only [if_true, Sem.run_bind, hz, Result.andThen_ok]
      have hlen : ((cs.drop i).take z).length = z := by simp; omega
      have := run_loadCells_list (P := P) w ⟨g, off + i, none⟩ ((cs.drop i).take z) (fun j v hv => by
        rw [Addr.add_mid, Nat.add_assoc]
        rw [List.getElem?_take] at hv
        split at hv
        · rw [List.getElem?_drop] at hv; exact hc' _ _ hv
        · cases hv)
      rw [hlen] at this
      simp [this]
  simp only [hp, Instr.loadAt, Instr.sureAddr, Sem.run_bind, Sem.run_pure, Result.andThen_ok, hrun]
/-- new entries, behind the others or where a region's list waits for them -/
def setS (S : List (Bool × Fz)) : Nat → List Fz → List (Bool × Fz)
  | _, [] => S
  | k, e :: l => setS (S.set k (true, e)) (k + 1) l
def putS (m : Option Nat) (S : List (Bool × Fz)) (l : List Fz) : List (Bool × Fz) :=
  match m with
  | none => S ++ l.map (true, ·)
  | some k => setS S k l
def freeS (S : List (Bool × Fz)) : Nat → Nat → Bool
  | _, 0 => true
  | k, j + 1 => (match S[k]? with | some (false, _) => true | _ => false) && freeS S (k + 1) j
def okS (m : Option Nat) (S : List (Bool × Fz)) (j : Nat) : Bool :=
  match m with
  | none => true
  | some k => freeS S k j
def OkL (w : World) (Z : Nat → Prop) (B : Nat → Prop) (L : List Fz) : Prop :=
  ∀ (i : Nat) (e : Fz), L[i]? = some e → e.ok w (fun g => (Z g ∨ B g) ∧ ∀ (j : Nat) (e' : Fz), j ≠ i → L[j]? = some e' → ¬ e'.owns g) B
def Ret {ρ : Type} (w0 : World) (Z : Nat → Prop) (v : ρ → Value) (E : ρ → List Fz) (e : Ending) (w' : World) : Prop := ∃ r, e = .returned (v r) ∧ Below w0.heap.size w0 w' ∧ OkL w' Z (Bn w0.heap.size noX) (E r)
abbrev Bs.withS (b : Bs) (S : List (Bool × Fz)) : Bs := ⟨b.w, b.F, S, b.Z, b.X⟩
theorem setS_get : ∀ (l : List Fz) (S : List (Bool × Fz)) (k i : Nat), k + l.length ≤ S.length → (setS S k l)[i]? = if k ≤ i ∧ i < k + l.length then (l[i - k]?).map (true, ·) else S[i]?
  | [], S, k, i, _ => by rw [setS, if_neg (by simp <;> omega)]
  | e :: l, S, k, i, h => by
    simp only [List.length_cons] at h
    rw [setS, setS_get l _ (k + 1) i (by simp; omega)]
    by_cases h1 : k + 1 ≤ i ∧ i < k + 1 + l.length
    · rw [if_pos h1, if_pos (by simp; omega), show i - k = (i - (k + 1)) + 1 by omega, List.getElem?_cons_succ]
    · rw [if_neg h1]
      by_cases h2 : i = k
      · subst h2
        rw [if_pos (by simp), Nat.sub_self, List.getElem?_set]
        simp; omega
      · rw [if_neg (by simp; omega), List.getElem?_set, if_neg (fun h => h2 h.symm)]
theorem freeS_get (S : List (Bool × Fz)) : ∀ (j k : Nat), freeS S k j = true → k + j ≤ S.length ∨ j = 0
  | 0, _, _ => .inr rfl
  | j + 1, k, h => by
    simp only [freeS, Bool.and_eq_true] at h
    have hk : k < S.length := by
      cases hS : S[k]? with
      | none => rw [hS] at h; simp at h
      | some e => exact (List.getElem?_eq_some_iff.1 hS).1
    rcases freeS_get S j (k + 1) h.2 with h1 | h1 <;> left <;> omega
theorem freeS_false (S : List (Bool × Fz)) : ∀ (j k i : Nat), freeS S k j = true → k ≤ i → i < k + j → ∀ e, S[i]? = some e → e.1 = false
  | 0, k, i, _, h1, h2, _, _ => by omega
  | j + 1, k, i, h, h1, h2, e, he => by
    simp only [freeS, Bool.and_eq_true] at h
    by_cases hik : i = k
    · subst hik
      rw [he] at h
      obtain ⟨b, f⟩ := e
      cases b
      · rfl
      · simp at h
    · exact freeS_false S j (k + 1) i h.2 (by omega) (by omega) e he
/-- where each entry of a list with new ones comes from -/
theorem putS_get {m : Option Nat} {S : List (Bool × Fz)} {l : List Fz} (h : okS m S l.length = true) : ∃ k, ∀ (i : Nat) (e : Bool × Fz), (putS m S l)[i]? = some e → (k ≤ i ∧ e.1 = true ∧ l[i - k]? = some e.2) ∨ (S[i]? = some e ∧ (e.1 = true → i < k ∨ k + l.length ≤ i)) := by
  cases m with
  | none =>
    refine ⟨S.length, fun i e he => ?_⟩
    rw [putS, List.getElem?_append] at he
    split at he
    · rename_i hlt; exact .inr ⟨he, fun _ => .inl hlt⟩
    · rename_i hge
      left
      rw [List.getElem?_map] at he
      obtain ⟨x, hx, rfl⟩ := Option.map_eq_some_iff.1 he
      exact ⟨by omega, rfl, hx⟩
  | some k =>
    refine ⟨k, fun i e he => ?_⟩
    have hf : freeS S k l.length = true := h
    rcases freeS_get S _ _ hf with hle | h0
    · rw [putS, setS_get l S k i hle] at he
      split at he
      · rename_i hh
        left
        obtain ⟨x, hx, rfl⟩ := Option.map_eq_some_iff.1 he
        exact ⟨hh.1, rfl, hx⟩
      · rename_i hh
        exact .inr ⟨he, fun _ => by omega⟩
    · have : l = [] := List.length_eq_zero_iff.1 h0
      subst this
      exact .inr ⟨he, fun _ => by simp; omega⟩
theorem putS_old {m : Option Nat} {S : List (Bool × Fz)} {l : List Fz} (h : okS m S l.length = true) {i : Nat} {e : Bool × Fz} (hi : S[i]? = some e) (h1 : e.1 = true) : (putS m S l)[i]? = some e := by
  cases m with
  | none => rw [putS, List.getElem?_append_left (List.getElem?_eq_some_iff.1 hi).1]; exact hi
  | some k =>
    have hf : freeS S k l.length = true := h
    rcases freeS_get S _ _ hf with hle | h0
    · rw [putS, setS_get l S k i hle]
      split
      · rename_i hh
        have := freeS_false S _ _ i hf hh.1 hh.2 e hi
        rw [this] at h1; cases h1
      · exact hi
    · have : l = [] := List.length_eq_zero_iff.1 h0
      subst this
      exact hi
/-- a list of entries more, of a call's answer or of one's own making -/
theorem St.addS (hs : St n w0 fs bs a w) {m : Option Nat} {L : List Fz} (hok : okS m w0.S L.length = true) {w' : World} (hb : Below w.heap.size w w') (hL : OkL w' (Zall w0 bs) (Bn w.heap.size noX) L) : St n (w0.withS (putS m w0.S L)) fs bs a w' := by
  have h0 := hs.grow hb
  obtain ⟨k, key⟩ := putS_get hok
  have hsz := hs.below.size
  have up : ∀ g, Bn w.heap.size noX g → w.heap.size ≤ g := fun g h => h.elim id False.elim
  have upB : ∀ g, Bn w.heap.size noX g → w0.B g := fun g h => .inl (Nat.le_trans hsz (up g h))
  refine ⟨h0.size, h0.defers, h0.slots, h0.blks, h0.apart, h0.below, h0.frz, fun i e h h1 => ?_⟩
  have ownL : ∀ (j : Nat) (e' : Fz) (g : Nat), L[j]? = some e' → e'.owns g → w.heap.size ≤ g := fun j e' g hj ho => up g (Fz.ok_lt (hL j e' hj) ho).2.2
  rcases key i e h with ⟨hki, _, hLi⟩ | ⟨hS, hno⟩
  · refine Fz.ok_mono (fun g _ h => upB g h) (fun g hg hlt => ⟨⟨?_, fun j b hj hb1 => ?_, fun j e' hji hj he' => ?_⟩, rfl⟩) (hL _ _ hLi)
    · rcases hg.1 with hg1 | hg1
      · exact hg1.1
      · exact .inr (upB g hg1)
    · rcases hg.1 with hg1 | hg1
      · exact hg1.2.1 j b hj hb1
      · have := hs.lt hj hb1
        have := up g hg1
        omega
    · rcases key j e' hj with ⟨hkj, _, hLj⟩ | ⟨hSj, _⟩
      · exact hg.2 (j - k) e'.2 (by omega) hLj
      · rcases hg.1 with hg1 | hg1
        · exact hg1.2.2 j e' hSj he'
        · intro ho
          have := (Fz.ok_lt (hs.fz j e' hSj he') ho).1
          have := up g hg1
          omega
  · refine Fz.ok_mono (fun _ _ h => h) (fun g hg hlt => ⟨⟨hg.1, hg.2.1, fun j e' hji hj he' => ?_⟩, hb.block g hlt⟩) (hs.fz i e hS h1)
    rcases key j e' hj with ⟨_, _, hLj⟩ | ⟨hSj, _⟩
    · intro ho
      have := ownL _ _ _ hLj ho
      omega
    · exact hg.2.2 j e' hji hSj he'
theorem op_callS {F : FuncId} {ρ : Type} (hs : St n w0 fs bs a w) (m ms : Option Nat) {f : Operand} {xs : Array Operand} {ts : Array TypeId} {vs : List Value} {v : ρ → Value} {E : ρ → List Fz} {j : Nat} {d : Nat} (ho : o.op = .call ⟨.value f, xs, ts⟩) (hd : o.dst = some d)
    (hf : ev fs f = some (.func (.func F) #[] #[])) (hx : evs fs xs.toList = some vs) (hcl : ∀ w, (callFunc F vs.toArray).run P w = .ok (.enter F vs.toArray) w)
    (hc : St n w0 fs bs a w → Calls P F vs.toArray w (Ret w (Zall w0 bs) v E)) (hE : ∀ r, (E r).length = j) (hokS : okS ms w0.S j = true) (hok : okf m fs d n = true)
    (h : ∀ r a' w', St n (w0.withS (putS ms w0.S (E r))) (putf m fs d (v r)) bs a' w' → K a' w') : o.wp P a w K Q := by
  have hm : xs.map a.eval = vs.toArray := by
    have := hs.evs hx
    rw [← this, ← Array.toList_map]
  unfold Oper.wp execOp
  rw [ho]
  simp only [resolve, hs.ev hf, hm, Deferred.ofValue, Sem.run_bind, Sem.run_pure, Result.andThen_ok, invoke, Array.empty_append, Array.append_empty, hcl, Oper.upon_enter, hd]
  refine (hc hs).mono ?_
  rintro e w' ⟨r, rfl, hb, hL⟩
  exact h _ _ _ ((hs.addS (by rw [hE]; exact hokS) hb hL).put hok _)
/-- slots and entries of one's own choice: facts that need no memory -/
theorem St.pushS (hs : St n w0 fs bs a w) (m : Option Nat) {L : List Fz} (hok : okS m w0.S L.length = true) (hL : OkL w (Zall w0 bs) (Bn w.heap.size noX) L) : St n (w0.withS (putS m w0.S L)) fs bs a w := hs.addS hok (Below.refl _ _) hL
theorem okl1 {w : World} {Z : Nat → Prop} {B : Nat → Prop} {e : Fz} (h : e.ok w Z B) : OkL w Z B [e] := by
  intro i e' he
  cases i with
  | zero =>
    obtain rfl : e = e' := by simpa using he
    exact Fz.ok_mono (fun _ _ h => h) (fun g hg _ => ⟨⟨.inl hg, fun j e' hj he' => by
      cases j with
      | zero => exact absurd rfl hj
      | succ j => simp at he'⟩, rfl⟩) h
  | succ i => simp at he
theorem okl0 {w : World} {Z : Nat → Prop} {B : Nat → Prop} : OkL w Z B [] := fun i e he => by simp at he
/-- a part of a row -/
theorem celv_part {w : World} {Z : Nat → Prop} {v : Value} {N : Nat} {cs : List Value} (z i h : Nat) (hv : CelV w Z v N cs) (hi : i ≤ h) (hh : h ≤ N) : CelV w Z (vsl v z i h) (h - i) ((cs.drop (i * z)).take ((h - i) * z)) := by
  obtain ⟨ad, c, rfl, hN, hc, hn, hcs⟩ := hv
  refine ⟨if c = i then ad else ad.map (·.add (i * z)), c - i, rfl, by omega, by omega, ?_, fun j u hu => ?_⟩
  · intro h0
    split at h0
    · have := hn h0; omega
    · cases ad with
      | none => have := hn rfl; omega
      | some _ => cases h0
  · rw [List.getElem?_take] at hu
    split at hu
    · rename_i hj
      rw [List.getElem?_drop] at hu
      obtain ⟨g, off, rfl, hg, hcell⟩ := hcs _ u hu
      have hne : ¬ c = i := by
        intro hci
        have : h - i = 0 := by omega
        rw [this, Nat.zero_mul] at hj
        omega
      refine ⟨g, off + i * z, ?_, hg, ?_⟩
      · rw [if_neg hne]; simp [Addr.add_mid]
      · rw [Nat.add_assoc]; exact hcell
    · cases hu
theorem run_sliceC {T E : TypeId} {ad : Option Addr} {N c z i h : Nat} {lo hi : Option Value} (hu : P.underlying T = some (.slice E)) (hz : ∀ w, (sizeOf E).run P w = .ok z w) (hlo : lo = none ∧ i = 0 ∨ ∃ κ, lo = some (.int κ (i : Int))) (hhi : hi = none ∧ h = N ∨ ∃ κ, hi = some (.int κ (h : Int)))
    (h1 : i ≤ h) (h2 : h ≤ N) (h3 : N ≤ c) (w : World) : (Instr.sliceAt T (.slice ad N c) lo hi none).run P w = .ok (vsl (.slice ad N c) z i h) w := by
  have e1 : (0 : Int) ≤ (h : Int) ∧ (h : Int) ≤ (c : Int) := ⟨by omega, by omega⟩
  have e2 : (0 : Int) ≤ (i : Int) ∧ (i : Int) ≤ (h : Int) := ⟨by omega, by omega⟩
  have e3 : (0 : Int) ≤ (i : Int) ∧ (i : Int) ≤ (N : Int) := ⟨by omega, by omega⟩
  have hic : h ≤ c := by omega
  rcases hlo with ⟨rfl, rfl⟩ | ⟨κ, rfl⟩ <;> rcases hhi with ⟨rfl, rfl⟩ | ⟨κ', rfl⟩ <;>
    simp [Instr.sliceAt, Instr.slice, Instr.sliceBounds, Instr.sliceBound, asIntOf, Sem.run_bind, run_underlying hu, Result.andThen, hz, e1, e2, e3, h1, h2, h3, hic, vsl]
theorem op_sliceC (hs : St n w0 fs bs a w) (m ms : Option Nat) (k i h : Nat) {T E : TypeId} {x : Operand} {lo hi : Option Operand} {v : Value} {z N : Nat} {cs : List Value} {d : Nat} (ho : o.op = .slice T x lo hi none) (hd : o.dst = some d) (hx : ev fs x = some v)
    (hk : w0.S[k]? = some (true, .cel v N cs)) (hlo : lo = none ∧ i = 0 ∨ ∃ y κ, lo = some y ∧ ev fs y = some (.int κ (i : Int))) (hhi : hi = none ∧ h = N ∨ ∃ y κ, hi = some y ∧ ev fs y = some (.int κ (h : Int)))
    (hu : P.underlying T = some (.slice E)) (hz : ∀ w, (sizeOf E).run P w = .ok z w) (h1 : i ≤ h) (h2 : h ≤ N) (hokS : okS ms w0.S 1 = true) (hok : okf m fs d n = true)
    (hK : ∀ a', St n (w0.withS (putS ms w0.S [.cel (vsl v z i h) (h - i) ((cs.drop (i * z)).take ((h - i) * z))])) (putf m fs d (vsl v z i h)) bs a' w → K a' w) : o.wp P a w K Q := by
  have hall := hs.all hk rfl
  have hnew : OkL w (Zall w0 bs) (Bn w.heap.size noX) [.cel (vsl v z i h) (h - i) ((cs.drop (i * z)).take ((h - i) * z))] := okl1 (celv_part z i h hall h1 h2)
  obtain ⟨ad, c, rfl, hN, _⟩ := hs.row (k := k) (v := v) (N := N) (cs := cs) (by unfold rowAt; rw [hk])
  have hrun := run_sliceC (P := P) (T := T) (E := E) (ad := ad) (N := N) (c := c) (z := z) (i := i) (h := h) (lo := lo.map a.eval) (hi := hi.map a.eval) hu hz
    (by rcases hlo with ⟨rfl, rfl⟩ | ⟨y, κ, rfl, hy⟩
        · exact .inl ⟨rfl, rfl⟩
        · exact .inr ⟨κ, by simp [hs.ev hy]⟩)
    (by rcases hhi with ⟨rfl, rfl⟩ | ⟨y, κ, rfl, hy⟩
        · exact .inl ⟨rfl, rfl⟩
        · exact .inr ⟨κ, by simp [hs.ev hy]⟩) h1 h2 hN w
  have hs' := hs.pushS ms (L := [.cel (vsl (.slice ad N c) z i h) (h - i) ((cs.drop (i * z)).take ((h - i) * z))]) hokS hnew
  refine op_val hs' m hd hok ?_ hK
  unfold execOp
  rw [ho]
  simp only [hs.ev hx, Option.map_none] at hrun ⊢
  simp [hrun, Sem.run_bind, Result.andThen]
/-- nil is a row of one's own, and a byte string -/
theorem St.nilOwn (hs : St n w0 fs bs a w) (m : Option Nat) (E : TypeId) (size : Nat) (hok : okS m w0.S 1 = true) : St n (w0.withS (putS m w0.S [.own (.slice none 0 0) E size 0 []])) fs bs a w :=
  hs.pushS m hok (okl1 ⟨World.ownsRow_nil w _ E size, fun g hg => by cases hg⟩)
theorem celv_nil {w : World} {Z : Nat → Prop} : CelV w Z (.slice none 0 0) 0 [] := ⟨none, 0, rfl, Nat.le_refl _, Nat.zero_le _, fun _ => rfl, fun j u hu => by simp at hu⟩
theorem St.nilCel (hs : St n w0 fs bs a w) (m : Option Nat) (hok : okS m w0.S 1 = true) : St n (w0.withS (putS m w0.S [.cel (.slice none 0 0) 0 []])) fs bs a w := hs.pushS m hok (okl1 celv_nil)
/-- an entry of a list of byte strings -/
theorem St.pick (hs : St n w0 fs bs a w) (m : Option Nat) (k : Nat) {vs : List Value} {ls : List (List UInt8)} {i : Nat} {v : Value} {l : List UInt8} (hk : w0.S[k]? = some (true, .bys vs ls)) (hv : vs[i]? = some v) (hl : ls[i]? = some l) (hok : okS m w0.S 1 = true) :
    St n (w0.withS (putS m w0.S [.cel v l.length (bcs l)])) fs bs a w := hs.pushS m hok (okl1 ((hs.all hk rfl).2 i v l hv hl))
/-- a choice of entries, in another order -/
def selS (S : List (Bool × Fz)) : List Nat → Option (List (Bool × Fz))
  | [] => some []
  | k :: ks => match S[k]?, selS S ks with
    | some e, some l => some (e :: l)
    | _, _ => none
theorem selS_get {S : List (Bool × Fz)} : ∀ {ks : List Nat} {S' : List (Bool × Fz)}, selS S ks = some S' → ∀ (i : Nat) (e : Bool × Fz), S'[i]? = some e → ∃ k, ks[i]? = some k ∧ S[k]? = some e
  | [], S', h, i, e, he => by
    obtain rfl : [] = S' := by simpa [selS] using h
    simp at he
  | k :: ks, S', h, i, e, he => by
    unfold selS at h
    split at h
    · rename_i e0 l h1 h2
      obtain rfl : e0 :: l = S' := by simpa using h
      cases i with
      | zero =>
        obtain rfl : e0 = e := by simpa using he
        exact ⟨k, rfl, h1⟩
      | succ i => exact selS_get h2 i e (by simpa using he)
    · cases h
theorem St.selS (hs : St n w0 fs bs a w) (ks : List Nat) {S' : List (Bool × Fz)} (h : Go.Proofs.Ytbjnlcblaonccaa.selS w0.S ks = some S') (hnd : ks.Nodup) : St n (w0.withS S') fs bs a w := by
  refine ⟨hs.size, hs.defers, hs.slots, hs.blks, hs.apart, hs.below, hs.frz, fun i e he h1 => ?_⟩
  obtain ⟨k, hk, hSk⟩ := selS_get h i e he
  refine Fz.ok_mono (fun _ _ h => h) (fun g hg _ => ⟨⟨hg.1, hg.2.1, fun j e' hji hj he' => ?_⟩, rfl⟩) (hs.fz k e hSk h1)
  obtain ⟨k', hk', hSk'⟩ := selS_get h j e' hj
  refine hg.2.2 k' e' (fun hkk => hji ?_) hSk' he'
  subst hkk
  obtain ⟨l1, e1⟩ := List.getElem?_eq_some_iff.1 hk
  obtain ⟨l2, e2⟩ := List.getElem?_eq_some_iff.1 hk'
  have hp := List.pairwise_iff_getElem.1 hnd
  rcases Nat.lt_trichotomy i j with hlt | heq | hlt
  · exact absurd (e1.trans e2.symm) (hp i j l1 l2 hlt)
  · exact heq.symm
  · exact absurd (e2.trans e1.symm) (hp j i l2 l1 hlt)
/-- an entry said in other words -/
theorem St.conS (hs : St n w0 fs bs a w) (k : Nat) {e e' : Fz} (h : w0.S[k]? = some (true, e)) (hok : ∀ Z, e.ok w Z w0.B → e'.ok w Z w0.B) (ho : ∀ g, e'.owns g → e.owns g) : St n (w0.withS (w0.S.set k (true, e'))) fs bs a w := by
  have key : ∀ (i : Nat) (x : Bool × Fz), (w0.S.set k (true, e'))[i]? = some x → (i = k ∧ x = (true, e')) ∨ (i ≠ k ∧ w0.S[i]? = some x) := by
    intro i x hx
    rw [List.getElem?_set] at hx
    split at hx
    · rename_i hik
      split at hx
      · exact .inl ⟨hik.symm, by simpa using hx.symm⟩
      · cases hx
    · rename_i hik; exact .inr ⟨fun e => hik e.symm, hx⟩
  refine ⟨hs.size, hs.defers, hs.slots, hs.blks, hs.apart, hs.below, hs.frz, fun i x hx h1 => ?_⟩
  have base : ∀ (j : Nat) (y : Bool × Fz) (g : Nat), (w0.S.set k (true, e'))[j]? = some y → y.1 = true → y.2.owns g → ∃ y', w0.S[j]? = some y' ∧ y'.1 = true ∧ y'.2.owns g := by
    intro j y g hj hy hg
    rcases key j y hj with ⟨rfl, rfl⟩ | ⟨_, h2⟩
    · exact ⟨_, h, rfl, ho g hg⟩
    · exact ⟨y, h2, hy, hg⟩
  have z : ∀ g, Zs w0 bs i g → Zs (w0.withS (w0.S.set k (true, e'))) bs i g := fun g hg => ⟨hg.1, hg.2.1, fun j y hji hj hy ho' => by
    obtain ⟨y', h3, h4, h5⟩ := base j y g hj hy ho'
    exact hg.2.2 j y' hji h3 h4 h5⟩
  rcases key i x hx with ⟨rfl, rfl⟩ | ⟨_, h2⟩
  · exact Fz.ok_mono (fun _ _ h => h) (fun g hg _ => ⟨z g hg, rfl⟩) (hok _ (hs.fz i _ h rfl))
  · exact Fz.ok_mono (fun _ _ h => h) (fun g hg _ => ⟨z g hg, rfl⟩) (hs.fz i _ h2 h1)
/-- a row of one's own that is no longer appended to -/
theorem St.freeze (hs : St n w0 fs bs a w) (k : Nat) {v : Value} {E : TypeId} {size N : Nat} {xs : List Value} (h : w0.S[k]? = some (true, .own v E size N xs)) : St n (w0.withS (w0.S.set k (true, .cel v N xs))) fs bs a w :=
  hs.conS k h (fun Z hz => own_cel hz.1 fun g hg => (hz.2 g hg).1) (fun g hg => by cases hg)
theorem St.celEq (hs : St n w0 fs bs a w) (k : Nat) {v : Value} {N N' : Nat} {cs cs' : List Value} (h : w0.S[k]? = some (true, .cel v N cs)) (hN : N = N') (hc : cs = cs') : St n (w0.withS (w0.S.set k (true, .cel v N' cs'))) fs bs a w := by
  subst hN; subst hc
  exact hs.conS k h (fun Z hz => hz) (fun g hg => hg)
theorem St.ownEq (hs : St n w0 fs bs a w) (k : Nat) {v : Value} {E : TypeId} {size N N' : Nat} {xs xs' : List Value} (h : w0.S[k]? = some (true, .own v E size N xs)) (hN : N = N') (hc : xs = xs') : St n (w0.withS (w0.S.set k (true, .own v E size N' xs'))) fs bs a w := by
  subst hN; subst hc
  exact hs.conS k h (fun Z hz => hz) (fun g hg => hg)
/-- the answer's entries, at a call's end -/
theorem St.ret1 (hs : St n w0 fs bs a w) (k : Nat) {e : Fz} (h : w0.S[k]? = some (true, e)) : OkL w w0.Z w0.B [e] := by
  intro i e' he
  cases i with
  | zero =>
    obtain rfl : e = e' := by simpa using he
    exact Fz.ok_mono (fun _ _ h => h) (fun g hg _ => ⟨⟨hg.1, fun j e' hj he' => by
      cases j with
      | zero => exact absurd rfl hj
      | succ j => simp at he'⟩, rfl⟩) (hs.fz k _ h rfl)
  | succ i => simp at he
theorem St.ret2 (hs : St n w0 fs bs a w) (k k' : Nat) {e e' : Fz} (h : w0.S[k]? = some (true, e)) (h' : w0.S[k']? = some (true, e')) (hne : k ≠ k') : OkL w w0.Z w0.B [e, e'] := by
  intro i x hx
  match i, hx with
  | 0, hx =>
    obtain rfl : e = x := by simpa using hx
    exact Fz.ok_mono (fun _ _ h => h) (fun g hg _ => ⟨⟨hg.1, fun j y hj hy => by
      match j, hj, hy with
      | 0, hj, _ => exact absurd rfl hj
      | 1, _, hy =>
        obtain rfl : e' = y := by simpa using hy
        exact hg.2.2 k' _ (fun e => hne e.symm) h' rfl
      | j + 2, _, hy => simp at hy⟩, rfl⟩) (hs.fz k _ h rfl)
  | 1, hx =>
    obtain rfl : e' = x := by simpa using hx
    exact Fz.ok_mono (fun _ _ h => h) (fun g hg _ => ⟨⟨hg.1, fun j y hj hy => by
      match j, hj, hy with
      | 0, _, hy =>
        obtain rfl : e = y := by simpa using hy
        exact hg.2.2 k _ hne h rfl
      | 1, hj, _ => exact absurd rfl hj
      | j + 2, _, hy => simp at hy⟩, rfl⟩) (hs.fz k' _ h' rfl)
  | i + 2, hx => simp at hx
end
end Go.Proofs.Ytbjnlcblaonccaa
