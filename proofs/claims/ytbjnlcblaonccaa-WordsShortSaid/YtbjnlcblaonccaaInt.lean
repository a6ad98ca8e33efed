/- Whole numbers in the walk: each operation on integers that are natural numbers; rows of integers as tables; slices that the call made. -/
import Derived.Test.YtbjnlcblaonccaaGo
import Derived.Deep.AppendLies
import Derived.Laws.MakeOwn
namespace Go.Proofs.Ytbjnlcblaonccaa
open Go.RowKit

/-- one above the greatest natural number of a kind -/
def lid : IntKind → Nat
  | .i8 => 128 | .i16 => 32768 | .i32 => 2147483648 | .i64 => 9223372036854775808
  | .u8 => 256 | .u16 => 65536 | .u32 => 4294967296 | .u64 => 18446744073709551616
theorem wrapN {k : IntKind} {n : Nat} (h : n < lid k) : k.wrap (n : Int) = n := by
  cases k <;> simp only [lid] at h <;> simp [IntKind.wrap, IntKind.bits, IntKind.signed] <;> omega
def usg : IntKind → Bool
  | .u8 | .u16 | .u32 | .u64 => true
  | _ => false
theorem wrapM {k : IntKind} (hu : usg k = true) (n : Nat) : k.wrap (n : Int) = ((n % lid k : Nat) : Int) := by
  cases k <;> simp [usg] at hu <;> simp [IntKind.wrap, IntKind.bits, IntKind.signed, lid]
theorem lid_bits {k : IntKind} (hu : usg k = true) : lid k = 2 ^ k.bits := by cases k <;> simp [usg] at hu <;> rfl
section
variable {P : Program} {k : IntKind} {T : TypeId} {x y z : Nat}
theorem bin_addN (h : x + y = z) (hb : z < lid k) (w : World) : (binOp .add T (.int k (x : Int)) (.int k (y : Int))).run P w = .ok (.int k (z : Int)) w := by
  have : (x : Int) + y = (z : Int) := by omega
  simp [binOp, Op.intArith, this, wrapN hb]
theorem bin_subN (h : x = y + z) (hb : z < lid k) (w : World) : (binOp .sub T (.int k (x : Int)) (.int k (y : Int))).run P w = .ok (.int k (z : Int)) w := by
  have : (x : Int) - y = (z : Int) := by omega
  simp [binOp, Op.intArith, this, wrapN hb]
theorem bin_mulN (h : x * y = z) (hb : z < lid k) (w : World) : (binOp .mul T (.int k (x : Int)) (.int k (y : Int))).run P w = .ok (.int k (z : Int)) w := by
  have : (x : Int) * y = (z : Int) := by rw [← h]; simp
  simp [binOp, Op.intArith, this, wrapN hb]
theorem bin_addM (hu : usg k = true) (h : (x + y) % lid k = z) (w : World) : (binOp .add T (.int k (x : Int)) (.int k (y : Int))).run P w = .ok (.int k (z : Int)) w := by
  have : (x : Int) + y = ((x + y : Nat) : Int) := by simp
  simp only [binOp, Op.intArith, this, wrapM hu, h]
  simp
theorem bin_mulM (hu : usg k = true) (h : (x * y) % lid k = z) (w : World) : (binOp .mul T (.int k (x : Int)) (.int k (y : Int))).run P w = .ok (.int k (z : Int)) w := by
  have : (x : Int) * y = ((x * y : Nat) : Int) := by simp
  simp only [binOp, Op.intArith, this, wrapM hu, h]
  simp
theorem bin_subM (hu : usg k = true) (h : (x + lid k - y) % lid k = z) (hy : y ≤ lid k) (w : World) : (binOp .sub T (.int k (x : Int)) (.int k (y : Int))).run P w = .ok (.int k (z : Int)) w := by
  have e : k.wrap ((x : Int) - y) = (z : Int) := by
    rw [← h]
    cases k <;> simp [usg] at hu <;> simp only [lid] at hy ⊢ <;> simp [IntKind.wrap, IntKind.bits, IntKind.signed] <;> omega
  simp [binOp, Op.intArith, e]
theorem bin_quoN (h : x / y = z) (hy : y ≠ 0) (hx : x < lid k) (w : World) : (binOp .quo T (.int k (x : Int)) (.int k (y : Int))).run P w = .ok (.int k (z : Int)) w := by
  have e : ((x : Int).tdiv y) = (z : Int) := by rw [← h]; rfl
  have hz : z < lid k := by rw [← h]; exact Nat.lt_of_le_of_lt (Nat.div_le_self _ _) hx
  simp [binOp, Op.intDiv, hy, e, wrapN hz]
theorem bin_remN (h : x % y = z) (hy : y ≠ 0) (w : World) : (binOp .rem T (.int k (x : Int)) (.int k (y : Int))).run P w = .ok (.int k (z : Int)) w := by
  have e : ((x : Int).tmod y) = (z : Int) := by rw [← h]; rfl
  simp [binOp, Op.intDiv, hy, e]
theorem bin_shrN {yk : IntKind} (h : x / 2 ^ y = z) (hx : x < 2 ^ k.bits) (w : World) : (binOp .shr T (.int k (x : Int)) (.int yk (y : Int))).run P w = .ok (.int k (z : Int)) w := by
  have e : ((x : Int).fdiv (2 ^ (min y k.bits))) = (z : Int) := by
    have e2 : x / 2 ^ (min y k.bits) = z := by
      rcases Nat.le_total y k.bits with hle | hle
      · rw [Nat.min_eq_left hle, h]
      · rw [Nat.min_eq_right hle, Nat.div_eq_of_lt hx, ← h, Nat.div_eq_of_lt (Nat.lt_of_lt_of_le hx (Nat.pow_le_pow_right (by omega) hle))]
    rw [← e2, Int.fdiv_eq_ediv_of_nonneg _ (by exact_mod_cast Nat.zero_le _)]
    simp
  have hn : ¬ ((y : Int) < 0) := by omega
  simp [binOp, Op.shift, hn, e]
theorem bin_shlM {yk : IntKind} (hu : usg k = true) (h : x * 2 ^ y % lid k = z) (w : World) : (binOp .shl T (.int k (x : Int)) (.int yk (y : Int))).run P w = .ok (.int k (z : Int)) w := by
  have e : k.wrap ((x : Int) * 2 ^ (min y k.bits)) = (z : Int) := by
    have e1 : (x : Int) * 2 ^ (min y k.bits) = ((x * 2 ^ (min y k.bits) : Nat) : Int) := by simp
    rw [e1, wrapM hu, ← h]
    congr 1
    rcases Nat.le_total y k.bits with hle | hle
    · rw [Nat.min_eq_left hle]
    · obtain ⟨d, rfl⟩ : ∃ d, y = k.bits + d := ⟨y - k.bits, by omega⟩
      rw [Nat.min_eq_right hle, lid_bits hu, Nat.pow_add, ← Nat.mul_assoc, Nat.mul_right_comm, Nat.mul_mod_left, Nat.mul_mod_left]
  have hn : ¬ ((y : Int) < 0) := by omega
  simp [binOp, Op.shift, hn, e]
theorem ofInt_nat (n : Nat) (b : Nat) (h : n < 2 ^ b) : (BitVec.ofInt b (n : Int)).toNat = n := by
  rw [BitVec.ofInt_natCast, BitVec.toNat_ofNat, Nat.mod_eq_of_lt h]
theorem bin_andN (h : x &&& y = z) (hx : x < 2 ^ k.bits) (hy : y < 2 ^ k.bits) (hb : z < lid k) (w : World) : (binOp .and T (.int k (x : Int)) (.int k (y : Int))).run P w = .ok (.int k (z : Int)) w := by
  have e : ((BitVec.ofInt k.bits (x : Int)) &&& (BitVec.ofInt k.bits (y : Int))).toNat = z := by
    rw [BitVec.toNat_and, ofInt_nat _ _ hx, ofInt_nat _ _ hy, h]
  simp only [binOp, Op.intBits, e, wrapN hb]
  simp
theorem bin_orN (h : x ||| y = z) (hx : x < 2 ^ k.bits) (hy : y < 2 ^ k.bits) (hb : z < lid k) (w : World) : (binOp .or T (.int k (x : Int)) (.int k (y : Int))).run P w = .ok (.int k (z : Int)) w := by
  have e : ((BitVec.ofInt k.bits (x : Int)) ||| (BitVec.ofInt k.bits (y : Int))).toNat = z := by
    rw [BitVec.toNat_or, ofInt_nat _ _ hx, ofInt_nat _ _ hy, h]
  simp only [binOp, Op.intBits, e, wrapN hb]
  simp
theorem bin_lssN (w : World) : (binOp .lss T (.int k (x : Int)) (.int k (y : Int))).run P w = .ok (.bool (decide (x < y))) w := by simp [binOp, Op.intCmp]
theorem bin_leqN (w : World) : (binOp .leq T (.int k (x : Int)) (.int k (y : Int))).run P w = .ok (.bool (decide (x ≤ y))) w := by simp [binOp, Op.intCmp]
theorem bin_gtrN (w : World) : (binOp .gtr T (.int k (x : Int)) (.int k (y : Int))).run P w = .ok (.bool (decide (y < x))) w := by simp [binOp, Op.intCmp]
theorem bin_geqN (w : World) : (binOp .geq T (.int k (x : Int)) (.int k (y : Int))).run P w = .ok (.bool (decide (y ≤ x))) w := by simp [binOp, Op.intCmp]
theorem bin_eqlN (w : World) : (binOp .eql T (.int k (x : Int)) (.int k (y : Int))).run P w = .ok (.bool (decide (x = y))) w := by
  have : ((x : Int) == (y : Int)) = decide (x = y) := by rw [Bool.eq_iff_iff]; simp only [beq_iff_eq, decide_eq_true_eq]; omega
  simp [binOp, Op.intCmp, this]
theorem bin_neqN (w : World) : (binOp .neq T (.int k (x : Int)) (.int k (y : Int))).run P w = .ok (.bool (decide (x ≠ y))) w := by
  have : ((x : Int) != (y : Int)) = decide (x ≠ y) := by rw [Bool.eq_iff_iff]; simp only [bne_iff_ne, decide_eq_true_eq]; omega
  simp [binOp, Op.intCmp, this]
theorem dT {p : Prop} [Decidable p] {r : Result Value} {w : World} (h : p) (hr : r = .ok (.bool (decide p)) w) : r = .ok (.bool true) w := by rw [hr, decide_eq_true h]
theorem dF {p : Prop} [Decidable p] {r : Result Value} {w : World} (h : ¬ p) (hr : r = .ok (.bool (decide p)) w) : r = .ok (.bool false) w := by rw [hr, decide_eq_false h]
theorem bin_subP (hx : x < 9223372036854775808) (w : World) : (binOp .sub T (.int .i64 (x : Int)) (.int .i64 1)).run P w = .ok (.int .i64 ((x : Int) - 1)) w := by
  have e : IntKind.i64.wrap ((x : Int) - 1) = (x : Int) - 1 := by simp [IntKind.wrap, IntKind.bits, IntKind.signed]; omega
  simp [binOp, Op.intArith, e]
theorem bin_geqP (w : World) : (binOp .geq T (.int .i64 ((x : Int) - 1)) (.int .i64 0)).run P w = .ok (.bool (decide (1 ≤ x))) w := by
  have e : decide ((x : Int) - 1 ≥ 0) = decide (1 ≤ x) := by rw [Bool.eq_iff_iff]; simp only [decide_eq_true_eq]; omega
  simp only [binOp, Op.intCmp, e]
  simp
theorem pre_nat {x : Nat} (h : 1 ≤ x) : Value.int .i64 ((x : Int) - 1) = .int .i64 ((x - 1 : Nat) : Int) := by
  rw [show ((x : Int) - 1) = ((x - 1 : Nat) : Int) by omega]
theorem conv_N {S D : TypeId} {k' : IntKind} (hs : P.underlying S = some (.int k)) (hd : P.underlying D = some (.int k')) (hx : x < lid k') (w : World) : (convert S D (.int k (x : Int))).run P w = .ok (.int k' (x : Int)) w := by
  simp [convert, run_underlying hs, run_underlying hd, Sem.run_bind, Result.andThen, Conv.intToInt, wrapN hx]
theorem conv_M {S D : TypeId} {k' : IntKind} (hu : usg k' = true) (hs : P.underlying S = some (.int k)) (hd : P.underlying D = some (.int k')) (h : x % lid k' = z) (w : World) : (convert S D (.int k (x : Int))).run P w = .ok (.int k' (z : Int)) w := by
  simp [convert, run_underlying hs, run_underlying hd, Sem.run_bind, Result.andThen, Conv.intToInt, wrapM hu, h]
end

/-- a row of integers -/
def tab (k : IntKind) (n : Nat) (f : Nat → Nat) : List Value := (List.range n).map fun i => .int k (f i : Int)
theorem tab_length (k : IntKind) (n : Nat) (f : Nat → Nat) : (tab k n f).length = n := by simp [tab]
theorem tab_get {k : IntKind} {n : Nat} {f : Nat → Nat} {j : Nat} (h : j < n) : (tab k n f)[j]? = some (.int k (f j : Int)) := by simp [tab, h]
theorem tabs_get {k : IntKind} {n : Nat} {f : Nat → Nat} {sp : List Value} {j : Nat} (h : j < n) : (tab k n f ++ sp)[j]? = some (.int k (f j : Int)) := by
  rw [List.getElem?_append_left (by rw [tab_length]; exact h), tab_get h]
def upn (f : Nat → Nat) (j x : Nat) (i : Nat) : Nat := if i = j then x else f i
theorem tab_set {k : IntKind} {n : Nat} {f : Nat → Nat} {j x : Nat} : (tab k n f).set j (.int k (x : Int)) = tab k n (upn f j x) := by
  apply List.ext_getElem?
  intro i
  rw [List.getElem?_set]
  split
  · rename_i hji
    subst hji
    split
    · rename_i hlt; rw [tab_get (by simpa [tab_length] using hlt)]; simp [upn]
    · rename_i hlt; rw [List.getElem?_eq_none (by simpa [tab_length] using hlt)]
  · rename_i hji
    by_cases hi : i < n
    · rw [tab_get hi, tab_get hi]; simp [upn, show ¬ i = j from fun h => hji h.symm]
    · rw [List.getElem?_eq_none (by simpa [tab_length] using hi), List.getElem?_eq_none (by simpa [tab_length] using hi)]
theorem tabs_set {k : IntKind} {n : Nat} {f : Nat → Nat} {sp : List Value} {j x : Nat} (h : j < n) : (tab k n f ++ sp).set j (.int k (x : Int)) = tab k n (upn f j x) ++ sp := by
  rw [List.set_append_left _ _ (by rw [tab_length]; exact h), tab_set]
theorem tab_congr {k : IntKind} {n : Nat} {f g : Nat → Nat} (h : ∀ j, j < n → f j = g j) : tab k n f = tab k n g := by
  unfold tab
  apply List.map_congr_left
  intro i hi
  rw [h i (by simpa using hi)]
theorem tab_snoc {k : IntKind} {n : Nat} {f : Nat → Nat} {x : Nat} (h : f n = x) : tab k n f ++ [.int k (x : Int)] = tab k (n + 1) f := by
  unfold tab; rw [List.range_succ, List.map_append]; simp [h]
theorem tab_le {k : IntKind} {n : Nat} {f : Nat → Nat} {j : Nat} (h : j < n) : Nat.ble (j + 1) (tab k n f).length = true := Nat.ble_eq_true_of_le (by rw [tab_length]; exact h)
theorem tabs_le {k : IntKind} {n : Nat} {f : Nat → Nat} {sp : List Value} {j : Nat} (h : j < n) : Nat.ble (j + 1) (tab k n f ++ sp).length = true := Nat.ble_eq_true_of_le (by rw [List.length_append, tab_length]; omega)
theorem tab_one (k : IntKind) (n : Nat) (f : Nat → Nat) : (tab k n f).all (·.oneCell') = true := by simp [tab, Value.oneCell']

section
variable {P : Program} {Q : Exit → Act → World → Prop} {K : Act → World → Prop} {a : Act} {w : World} {o : Oper} {n : Nat} {w0 : Bs} {fs : List Sl} {bs : List Bl}
theorem op_idxS (hs : St n w0 fs bs a w) (m : Option Nat) {T E : TypeId} {x y : Operand} {g i z N c : Nat} {k : IntKind} {j : Nat} {d : Nat} (ho : o.op = .indexAddr T x y) (hd : o.dst = some d) (hx : ev fs x = some (.slice (some ⟨g, i, none⟩) N c)) (hy : ev fs y = some (.int k (j : Int)))
    (hu : P.underlying T = some (.slice E)) (hz : ∀ w, (sizeOf E).run P w = .ok z w) (hj : j < N) {off : Nat} (hoff : i + j * z = off) (hok : okf m fs d n = true)
    (h : ∀ a', St n w0 (putf m fs d (.pointer (some ⟨g, off, none⟩))) bs a' w → K a' w) : o.wp P a w K Q :=
  op_val hs m hd hok (by
    subst hoff
    unfold execOp
    rw [ho]
    have h1 : (0 : Int) ≤ (j : Int) ∧ (j : Int) < (N : Int) := ⟨by omega, by omega⟩
    simp [hs.ev hx, hs.ev hy, Instr.indexAt, asIntOf, Sem.run_bind, run_underlying hu, Result.andThen, hz, h1, hj, Addr.add_mid]) h
/-- a row of the call's own is made -/
theorem op_made (hs : St n w0 fs bs a w) (m mb : Option Nat) {v : Nat → Value} {T : TypeId} {cs : List Value} {d : Nat} (hd : o.dst = some d) (hr : (execOp a.eval o).run P w = .ok (.value (v w.heap.size)) (w.alloc (.cells cs.toArray T)))
    (hokb : okb mb bs = true) (hok : okf m fs d n = true) (h : ∀ g a' w', St n w0 (putf m fs d (v g)) (putb mb bs (true, g, T, cs)) a' w' → K a' w') : o.wp P a w K Q := by
  unfold Oper.wp
  rw [hr, Oper.upon_value, hd]
  exact h _ _ _ ((hs.add hokb ((Below.refl _ _).alloc (Nat.le_refl _) _) (Nat.le_refl _) (heap_alloc_at w _)).put hok _)
theorem op_makeSlice (hs : St n w0 fs bs a w) (m mb : Option Nat) {T E : TypeId} {x y : Operand} {ti : TypeInfo} {z : Value} {l c : Nat} {kl kc : IntKind} {cs : List Value} {d : Nat} (ho : o.op = .makeSlice T x y) (hd : o.dst = some d) (hx : ev fs x = some (.int kl (l : Int))) (hy : ev fs y = some (.int kc (c : Int)))
    (hu : P.underlying T = some (.slice E)) (hi : P.info? E = some ti) (hz : ti.zero = some z) (hlc : l ≤ c) (hc16 : c * ti.size ≤ 16777216) (hby : ti.bytes * c ≤ 281474976710656) (hc63 : c ≤ 9223372036854775807) (hcs : madeCells z.cells (c * ti.size) = cs.toArray)
    (hokb : okb mb bs = true) (hok : okf m fs d n = true) (h : ∀ g a' w', St n w0 (putf m fs d (.slice (some ⟨g, 0, none⟩) l c)) (putb mb bs (true, g, E, cs)) a' w' → K a' w') : o.wp P a w K Q :=
  op_made hs m mb (v := fun g => .slice (some ⟨g, 0, none⟩) l c) hd (by
    have := run_makeSlice (P := P) w T E ti z hu hi hz kl kc l c (by omega) (by omega) (by rw [Int.toNat_natCast]; exact hc16) (by rw [← Int.natCast_mul]; omega) (by omega)
    unfold execOp
    rw [ho]
    simp only [hs.ev hx, hs.ev hy, Sem.run_bind, this, Result.andThen_ok, Int.toNat_natCast, hcs]
    rfl) hokb hok h
theorem op_buildSlice (hs : St n w0 fs bs a w) (m mb : Option Nat) {T E : TypeId} {ps : Array (Nat × Operand)} {l : Nat} {qs : List (Nat × Value)} {cs : List Value} {d : Nat} (ho : o.op = .buildSlice T l ps) (hd : o.dst = some d)
    (hx : evs fs (ps.toList.map (·.2)) = some (qs.map (·.2))) (hi : ps.toList.map (·.1) = qs.map (·.1))
    (hr : ∀ w, (Instr.buildSlice T l qs.toArray).run P w = .ok (.slice (some ⟨w.heap.size, 0, none⟩) l l) (w.alloc (.cells cs.toArray E)))
    (hokb : okb mb bs = true) (hok : okf m fs d n = true) (h : ∀ g a' w', St n w0 (putf m fs d (.slice (some ⟨g, 0, none⟩) l l)) (putb mb bs (true, g, E, cs)) a' w' → K a' w') : o.wp P a w K Q := by
  have hq : ps.map (fun (p : Nat × Operand) => (p.1, a.eval p.2)) = qs.toArray := by
    have h1 := hs.evs hx
    apply Array.ext'
    simp only [Array.toList_map]
    rw [List.map_map] at h1
    apply List.ext_getElem?
    intro j
    have e1 := congrArg (·[j]?) h1
    have e2 := congrArg (·[j]?) hi
    simp only [List.getElem?_map] at e1 e2 ⊢
    cases hp : ps.toList[j]? with
    | none =>
      rw [hp] at e1
      cases hq : qs[j]? with
      | none => rfl
      | some q => rw [hq] at e1; simp at e1
    | some p =>
      rw [hp] at e1 e2
      cases hq : qs[j]? with
      | none => rw [hq] at e1; simp at e1
      | some q =>
        rw [hq] at e1 e2
        simp at e1 e2
        simp [e1, e2]
  refine op_made hs m mb (v := fun g => .slice (some ⟨g, 0, none⟩) l l) hd ?_ hokb hok h
  unfold execOp
  rw [ho]
  simp only [hq]
  rw [Sem.run_bind, hr]
  rfl
/-- a call that hands back a row of its own -/
def Made (w : World) (T : TypeId) (v : Nat → Nat → Value) (xs : List Value) (e : Ending) (w' : World) : Prop :=
  ∃ g sp, e = .returned (v g (xs ++ sp).length) ∧ w.heap.size ≤ g ∧ w'.heap[g]? = some (.cells (xs ++ sp).toArray T (0, 0)) ∧ Below w.heap.size w w'
theorem op_callM {F : FuncId} (hs : St n w0 fs bs a w) (m mb : Option Nat) {f : Operand} {xs : Array Operand} {ts : Array TypeId} {vs : List Value} {T : TypeId} {v : Nat → Nat → Value} {cs : List Value} {d : Nat} (ho : o.op = .call ⟨.value f, xs, ts⟩) (hd : o.dst = some d)
    (hf : ev fs f = some (.func (.func F) #[] #[])) (hx : evs fs xs.toList = some vs) (hcl : ∀ w, (callFunc F vs.toArray).run P w = .ok (.enter F vs.toArray) w)
    (hc : ∀ w, Calls P F vs.toArray w (Made w T v cs)) (hokb : okb mb bs = true) (hok : okf m fs d n = true)
    (h : ∀ g sp a' w', St n w0 (putf m fs d (v g (cs ++ sp).length)) (putb mb bs (true, g, T, cs ++ sp)) a' w' → K a' w') : o.wp P a w K Q := by
  have hm : xs.map a.eval = vs.toArray := by
    have := hs.evs hx
    rw [← this, ← Array.toList_map]
  unfold Oper.wp execOp
  rw [ho]
  simp only [resolve, hs.ev hf, hm, Deferred.ofValue, Sem.run_bind, Sem.run_pure, Result.andThen_ok, invoke, Array.empty_append, Array.append_empty, hcl, Oper.upon_enter, hd]
  refine (hc w).mono ?_
  rintro e w' ⟨g, sp, rfl, hg, hb, hbl⟩
  exact h _ _ _ _ ((hs.add hokb hbl hg hb).put hok _)
/-- a call whose answer lies in no row of its own, with conditions on what was there ahead -/
theorem op_callW {F : FuncId} (hs : St n w0 fs bs a w) (m : Option Nat) {f : Operand} {xs : Array Operand} {ts : Array TypeId} {vs : List Value} {v : Value} {d : Nat} (ho : o.op = .call ⟨.value f, xs, ts⟩) (hd : o.dst = some d)
    (hf : ev fs f = some (.func (.func F) #[] #[])) (hx : evs fs xs.toList = some vs) (hcl : ∀ w, (callFunc F vs.toArray).run P w = .ok (.enter F vs.toArray) w)
    (hc : St n w0 fs bs a w → Calls P F vs.toArray w fun e w' => e = .returned v ∧ Below w.heap.size w w') (hok : okf m fs d n = true)
    (h : ∀ a' w', St n w0 (putf m fs d v) bs a' w' → K a' w') : o.wp P a w K Q := by
  have hm : xs.map a.eval = vs.toArray := by
    have := hs.evs hx
    rw [← this, ← Array.toList_map]
  unfold Oper.wp execOp
  rw [ho]
  simp only [resolve, hs.ev hf, hm, Deferred.ofValue, Sem.run_bind, Sem.run_pure, Result.andThen_ok, invoke, Array.empty_append, Array.append_empty, hcl, Oper.upon_enter, hd]
  refine (hc hs).mono ?_
  rintro e w' ⟨rfl, hb⟩
  exact h _ _ ((hs.grow hb).put hok v)

/-- append onto a row of the call's own -/
theorem op_append (hs : St n w0 fs bs a w) (m : Option Nat) (k : Nat) {x y : Operand} {T E : TypeId} {ti : TypeInfo} {z : Value} {g c mm c2 : Nat} {ad : Addr} {l size bytes : Nat} {xs sp news : List Value} {d : Nat}
    (ho : o.op = .call ⟨.builtin .append, #[x, y], #[T, T]⟩) (hd : o.dst = some d) (hx : ev fs x = some (.slice (some ⟨g, 0, none⟩) l c)) (hy : ev fs y = some (.slice (some ad) mm c2)) (hb : bs[k]? = some (true, g, E, xs ++ sp))
    (hu : P.underlying T = some (.slice E)) (hi : P.info? E = some ti) (hz : ti.zero = some z) (hsz : ti.size = size) (hby : ti.bytes = bytes) (hzs : z.cells.size = size) (hs0 : 0 < size)
    (hxl : xs.length = l * size) (hcl : (xs ++ sp).length = c * size) (hcm : c ≤ maxLen) (hlen : news.length = mm * size) (hnews : ∀ j u, news[j]? = some u → w.cell? (ad.add j) = some u) (h1 : ∀ u ∈ news, u.oneCell' = true)
    (hm0 : 0 < mm) (h63 : l + mm ≤ maxLen) (hbt : (l + mm) * bytes ≤ 140737488355328) (hok : okf m fs d n = true)
    (h : ∀ g' c' sp' a' w', St n w0 (putf m fs d (.slice (some ⟨g', 0, none⟩) (l + mm) c')) (bs.set k (true, g', E, xs ++ news ++ sp')) a' w' → (xs ++ news ++ sp').length = c' * size → c' ≤ maxLen → K a' w') : o.wp P a w K Q := by
  have hbk := hs.blks k _ hb rfl
  have hown : w.ownsRow 0 E size (.slice (some ⟨g, 0, none⟩) l c) l xs := by
    refine ⟨hxl, .inr ⟨g, c, (xs ++ sp).toArray, rfl, Nat.zero_le _, hbk.1, ?_, hcm, by simpa using hcl, by rw [← hxl]; simp⟩⟩
    have : l * size ≤ c * size := by rw [← hcl, ← hxl]; simp
    exact Nat.le_of_mul_le_mul_right this hs0
  refine wp_append_lies w x y T ho 0 E ti z size bytes hu hi hz hsz hby hzs hs0 _ l xs (hs.ev hx) hown ad mm c2 news (hs.ev hy) hlen hnews h1 hm0 h63 hbt (Nat.zero_le _) _ rfl ?_
  intro g' c' w' ho' hg' hat hlt
  rcases ho'.2 with ⟨hv, _⟩ | ⟨g2, cap, cur, hv, hge, hh, hle, hcm', hcs, htk⟩
  · cases hv
  · obtain ⟨rfl, rfl⟩ : g' = g2 ∧ c' = cap := by simpa using hv
    obtain ⟨sp', hcur⟩ : ∃ sp', cur.toList = xs ++ news ++ sp' := ⟨cur.toList.drop ((l + mm) * size), by rw [← htk, List.take_append_drop]⟩
    obtain rfl : cur = (xs ++ news ++ sp').toArray := by rw [← hcur]
    rw [hd]
    refine h g' c' sp' _ w' ?_ (by simpa using hcs) hcm'
    refine St.put ⟨hs.size, hs.defers, hs.slots, ?_, ?_, hs.below.grown hg' hs.below.size (fun r hr => ?_), fun p hp => ⟨?_, ?_⟩, fun i e he h1 => ?_⟩ hok _
    · intro i e he h1
      rw [List.getElem?_set] at he
      split at he
      · split at he
        · obtain rfl := Option.some.inj he
          refine ⟨hh, ?_⟩
          rcases hat with hat | hat
          · have : g = g' := by simpa [Value.ownBlock] using hat
            exact this ▸ hbk.2
          · exact .inl (by have := hs.below.size; show w0.w.heap.size ≤ g'; omega)
        · cases he
      · rename_i hne
        have hold := hs.blks i e he h1
        have hneg : e.2.1 ≠ g := hs.apart i k e (true, g, E, xs ++ sp) (fun h => hne h.symm) he hb h1 rfl
        exact ⟨(hg'.block _ (hs.lt he h1) (by simpa [Value.ownBlock] using hneg)).trans hold.1, hold.2⟩
    · have fresh : ∀ i (e : Bl), i ≠ k → bs[i]? = some e → e.1 = true → e.2.1 ≠ g' := by
        intro i e hik he h1 heq
        rcases hat with hat | hat
        · have : g = g' := by simpa [Value.ownBlock] using hat
          exact hs.apart i k e (true, g, E, xs ++ sp) hik he hb h1 rfl (heq.trans this.symm)
        · have := hs.lt he h1
          omega
      intro i j e e' hij he he' h1 h1'
      rw [List.getElem?_set] at he he'
      split at he
      · rename_i hi
        split at he
        · obtain rfl := Option.some.inj he
          split at he'
          · rename_i hj; exact absurd (hi.symm.trans hj) hij
          · rename_i hj; exact (fresh j e' (fun h => hj h.symm) he' h1').symm
        · cases he
      · rename_i hi
        split at he'
        · split at he'
          · obtain rfl := Option.some.inj he'
            exact fresh i e (fun h => hi h.symm) he h1
          · cases he'
        · exact hs.apart i j e e' hij he he' h1 h1'
    · have : r = g := by simpa [Value.ownBlock] using hr.symm
      rw [this]
      exact hbk.2
    · have hneg : p.1 ≠ g := fun e => (hs.frz p hp).2 k (true, g, E, xs ++ sp) hb rfl e.symm
      exact (hg'.block _ (hs.flt hp) (by simpa [Value.ownBlock] using hneg)).trans (hs.frz p hp).1
    · intro i e he h1
      rw [List.getElem?_set] at he
      split at he
      · split at he
        · obtain rfl := Option.some.inj he
          rcases hat with hat | hat
          · have : g = g' := by simpa [Value.ownBlock] using hat
            have h2 := (hs.frz p hp).2 k (true, g, E, xs ++ sp) hb rfl
            show g' ≠ p.1
            rw [← this]; exact h2
          · have := hs.flt hp
            show g' ≠ p.1
            omega
        · cases he
      · exact (hs.frz p hp).2 i e he h1
    · refine Fz.ok_mono (fun _ _ h => h) (fun y hy hlt => ?_) (hs.fz i e he h1)
      have hne := hy.2.1 k (true, g, E, xs ++ sp) hb rfl
      refine ⟨⟨hy.1, fun j b hb1 hb2 => ?_, hy.2.2⟩, hg'.block y hlt (fun e => hne (by simpa [Value.ownBlock] using e.symm))⟩
      rw [List.getElem?_set] at hb1
      split at hb1
      · split at hb1
        · obtain rfl := Option.some.inj hb1
          rcases hat with hat | hat
          · have : g = g' := by simpa [Value.ownBlock] using hat
            show g' ≠ y
            rw [← this]; exact hne
          · show g' ≠ y
            omega
        · cases hb1
      · exact hy.2.1 j b hb1 hb2
/-- the cells to be appended, out of a block of the call's own -/
theorem St.news (hs : St n w0 fs bs a w) {k g i : Nat} {T : TypeId} {cs : List Value} (hb : bs[k]? = some (true, g, T, cs)) (l : Nat) : ∀ (j : Nat) (u : Value), ((cs.drop i).take l)[j]? = some u → w.cell? ((⟨g, i, none⟩ : Addr).add j) = some u := by
  intro j u hu
  rw [Addr.add_mid, cell_of_row w g _ _ T _ (hs.blk hb)]
  rw [List.getElem?_take] at hu
  split at hu
  · rw [List.getElem?_drop] at hu; simpa using hu
  · cases hu
end
end Go.Proofs.Ytbjnlcblaonccaa
