/- Words built, pushed, told short. Plain law, no program here. -/
import Derived.Test.YtbjnlcblaonccaaWdP
namespace Go.Proofs.Ytbjnlcblaonccaa
def layB (o : Nat) (p : List UInt8) : List UInt8 :=
  if 0 < o ∧ o ≤ 75 then [UInt8.ofNat o] ++ p
  else if o = 76 then [UInt8.ofNat o, UInt8.ofNat (p.length % 256)] ++ p
  else if o = 77 then [UInt8.ofNat o, UInt8.ofNat (p.length % 256), UInt8.ofNat (p.length / 2 ^ 8 % 256)] ++ p
  else [UInt8.ofNat o]
def layQ (o : Nat) (p : List UInt8) : Bool :=
  if 0 < o ∧ o ≤ 75 then decide (p.length = o)
  else if o = 76 then decide (p.length ≤ 255)
  else if o = 77 then decide (p.length ≤ 65535)
  else decide (p.length = 0)
section
variable {o : Nat} {p : List UInt8}
theorem layB_1 (h : 0 < o) (h2 : o ≤ 75) : layB o p = [UInt8.ofNat o] ++ p ∧ layQ o p = decide (p.length = o) := ⟨if_pos ⟨h, h2⟩, if_pos ⟨h, h2⟩⟩
theorem layB_2 (h : o = 76) : layB o p = [UInt8.ofNat o, UInt8.ofNat (p.length % 256)] ++ p ∧ layQ o p = decide (p.length ≤ 255) := by
  unfold layB layQ; rw [if_neg (by omega), if_pos h, if_neg (by omega), if_pos h]; exact ⟨rfl, rfl⟩
theorem layB_3 (h : o = 77) : layB o p = [UInt8.ofNat o, UInt8.ofNat (p.length % 256), UInt8.ofNat (p.length / 2 ^ 8 % 256)] ++ p ∧ layQ o p = decide (p.length ≤ 65535) := by
  unfold layB layQ; rw [if_neg (by omega), if_neg (by omega), if_pos h, if_neg (by omega), if_neg (by omega), if_pos h]; exact ⟨rfl, rfl⟩
theorem layB_4 (h : ¬ (0 < o ∧ o ≤ 75)) (h2 : ¬ o = 76) (h3 : ¬ o = 77) : layB o p = [UInt8.ofNat o] ∧ layQ o p = decide (p.length = 0) := by
  unfold layB layQ; rw [if_neg h, if_neg h2, if_neg h3, if_neg h, if_neg h2, if_neg h3]; exact ⟨rfl, rfl⟩
theorem layB_len : (layB o p).length ≤ p.length + 3 := by
  unfold layB
  split
  · simp
  · split
    · simp
    · split <;> simp
end
/-- a script of words -/
def bld (ws : List Wd) : List UInt8 := ws.flatMap fun w => layB w.1 w.2
def bldQ (ws : List Wd) : Bool := ws.all fun w => layQ w.1 w.2
def BW (ws : List Wd) : List UInt8 × Nat := if bldQ ws = true then (bld ws, 0) else ([], 1)
theorem bld_snoc {ws : List Wd} {i : Nat} {w : Wd} (h : ws[i]? = some w) : bld (ws.take (i + 1)) = bld (ws.take i) ++ layB w.1 w.2 ∧ bldQ (ws.take (i + 1)) = (bldQ (ws.take i) && layQ w.1 w.2) := by
  rw [List.take_add_one, h]
  simp [bld, bldQ]
theorem bld_len {ws : List Wd} (h : ∀ w ∈ ws, w.2.length ≤ 400) : ∀ i, (bld (ws.take i)).length ≤ 403 * i
  | 0 => by simp [bld]
  | i + 1 => by
    have ih := bld_len h i
    cases hw : ws[i]? with
    | none => rw [List.take_add_one, hw]; simp; omega
    | some w =>
      rw [(bld_snoc hw).1, List.length_append]
      have := layB_len (o := w.1) (p := w.2)
      have := h w (List.mem_of_getElem? hw)
      omega
theorem BW_err {ws : List Wd} {i : Nat} {w : Wd} (h : ws[i]? = some w) (hq : layQ w.1 w.2 = false) : BW ws = ([], 1) := by
  unfold BW
  rw [if_neg]
  intro hh
  have := List.all_eq_true.1 hh w (List.mem_of_getElem? h)
  rw [hq] at this; cases this
theorem BW_end {ws : List Wd} {i : Nat} (hi : ¬ i < ws.length) (hq : bldQ (ws.take i) = true) : BW ws = (bld (ws.take i), 0) := by
  rw [List.take_of_length_le (by omega)] at hq ⊢
  exact if_pos hq
/-- the word that pushes a thing -/
def pushW (l : List UInt8) : Wd :=
  if l.length = 1 ∧ (1 ≤ byt l 0 ∧ byt l 0 ≤ 16) then (80 + byt l 0, [])
  else if l.length = 1 ∧ byt l 0 = 129 then (79, [])
  else (if l.length ≤ 75 then l.length else if l.length ≤ 255 then 76 else 77, l)
theorem pushW_1 {l : List UInt8} (h : l.length = 1) (h1 : 1 ≤ byt l 0) (h2 : byt l 0 ≤ 16) : pushW l = (80 + byt l 0, []) := if_pos ⟨h, h1, h2⟩
theorem pushW_2 {l : List UInt8} (h : l.length = 1) (h1 : byt l 0 = 129) : pushW l = (79, []) := by unfold pushW; rw [if_neg (by omega), if_pos ⟨h, h1⟩]
theorem pushW_3 {l : List UInt8} (h : ¬ (l.length = 1 ∧ (1 ≤ byt l 0 ∧ byt l 0 ≤ 16))) (h1 : ¬ (l.length = 1 ∧ byt l 0 = 129)) : pushW l = (if l.length ≤ 75 then l.length else if l.length ≤ 255 then 76 else 77, l) := by
  unfold pushW; rw [if_neg h, if_neg h1]
theorem pushW_a {l : List UInt8} (h : ¬ (l.length = 1 ∧ (1 ≤ byt l 0 ∧ byt l 0 ≤ 16))) (h1 : ¬ (l.length = 1 ∧ byt l 0 = 129)) (h2 : l.length ≤ 75) : pushW l = (l.length, l) := by rw [pushW_3 h h1, if_pos h2]
theorem pushW_b {l : List UInt8} (h : ¬ (l.length = 1 ∧ (1 ≤ byt l 0 ∧ byt l 0 ≤ 16))) (h1 : ¬ (l.length = 1 ∧ byt l 0 = 129)) (h2 : ¬ l.length ≤ 75) (h3 : l.length ≤ 255) : pushW l = (76, l) := by rw [pushW_3 h h1, if_neg h2, if_pos h3]
theorem pushW_c {l : List UInt8} (h : ¬ (l.length = 1 ∧ (1 ≤ byt l 0 ∧ byt l 0 ≤ 16))) (h1 : ¬ (l.length = 1 ∧ byt l 0 = 129)) (h2 : ¬ l.length ≤ 255) : pushW l = (77, l) := by rw [pushW_3 h h1, if_neg (by omega), if_neg h2]
theorem pushW_lt (l : List UInt8) : (pushW l).1 < 256 ∧ (pushW l).2.length ≤ l.length := by
  unfold pushW
  have := byt_lt l 0
  split
  · exact ⟨by show 80 + byt l 0 < 256; omega, by simp⟩
  · split
    · exact ⟨by show 79 < 256; decide, by simp⟩
    · refine ⟨?_, Nat.le_refl _⟩
      show (if l.length ≤ 75 then l.length else if l.length ≤ 255 then 76 else 77) < 256
      split
      · omega
      · split <;> decide
/-- what a word pushes -/
def pshB (o : Nat) (p : List UInt8) : List UInt8 :=
  if o ≤ 77 then p else if o = 79 then [UInt8.ofNat 129] else if 80 < o ∧ o ≤ 96 then [UInt8.ofNat (o - 80)] else []
def pshQ (o : Nat) : Bool := if o ≤ 77 then true else if o = 79 then true else decide (80 < o ∧ o ≤ 96)
section
variable {o : Nat} {p : List UInt8}
theorem psh_1 (h : o ≤ 77) : pshB o p = p ∧ pshQ o = true := ⟨if_pos h, if_pos h⟩
theorem psh_2 (h : ¬ o ≤ 77) (h2 : o = 79) : pshB o p = [UInt8.ofNat 129] ∧ pshQ o = true := by
  unfold pshB pshQ; rw [if_neg h, if_pos h2, if_neg h, if_pos h2]; exact ⟨rfl, rfl⟩
theorem psh_3 (h1 : 80 < o) (h2 : o ≤ 96) : pshB o p = [UInt8.ofNat (o - 80)] ∧ pshQ o = true := by
  unfold pshB pshQ; rw [if_neg (by omega), if_neg (by omega), if_pos ⟨h1, h2⟩, if_neg (by omega), if_neg (by omega), decide_eq_true ⟨h1, h2⟩]; exact ⟨rfl, rfl⟩
theorem psh_4 (h : ¬ o ≤ 77) (h2 : ¬ o = 79) (h3 : ¬ (80 < o ∧ o ≤ 96)) : pshB o p = [] ∧ pshQ o = false := by
  unfold pshB pshQ; rw [if_neg h, if_neg h2, if_neg h3, if_neg h, if_neg h2, decide_eq_false h3]; exact ⟨rfl, rfl⟩
theorem pshB_len : (pshB o p).length ≤ p.length + 1 := by
  unfold pshB
  split
  · omega
  · split
    · simp
    · split <;> simp
end
def shortB (o : Nat) (p : List UInt8) : Bool := !pshQ o || decide (pushW (pshB o p) = (o, p))
theorem sames_no {ws xs : List Wd} {i o y : Nat} {p k : List UInt8} (hw : ws[i]? = some (o, p)) (hx : xs[i]? = some (y, k)) (h : ¬ (o = y ∧ p = k)) : ws ≠ xs := by
  rintro rfl
  rw [hw] at hx
  simp only [Option.some.injEq, Prod.mk.injEq] at hx
  exact h hx
theorem sames_step {ws xs : List Wd} {i o y : Nat} {p k : List UInt8} (ha : ∀ j, j < i → ws[j]? = xs[j]?) (hw : ws[i]? = some (o, p)) (hx : xs[i]? = some (y, k)) (h : o = y ∧ p = k) : ∀ j, j < i + 1 → ws[j]? = xs[j]? := by
  intro j hj
  by_cases hji : j = i
  · subst hji; rw [hw, hx, h.1, h.2]
  · exact ha j (by omega)
theorem sames_yes {ws xs : List Wd} {i : Nat} (hl : ws.length = xs.length) (ha : ∀ j, j < i → ws[j]? = xs[j]?) (hi : ¬ i < ws.length) : ws = xs := by
  apply List.ext_getElem?
  intro j
  by_cases hj : j < i
  · exact ha j hj
  · rw [List.getElem?_eq_none (by omega), List.getElem?_eq_none (by omega)]
/-- words that may be asked about -/
def Small (ws : List Wd) : Prop := ws.length ≤ 400 ∧ ∀ w ∈ ws, w.2.length ≤ 400 ∧ w.1 < 256
theorem Small.at {ws : List Wd} (h : Small ws) {i : Nat} {o : Nat} {p : List UInt8} (hw : ws[i]? = some (o, p)) : p.length ≤ 400 ∧ o < 256 := h.2 _ (List.mem_of_getElem? hw)
end Go.Proofs.Ytbjnlcblaonccaa
