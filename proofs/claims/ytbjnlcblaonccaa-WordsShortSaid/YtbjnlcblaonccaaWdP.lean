/- Words of scripts: what they are. Plain law, no program here. -/
import Derived.Test.YtbjnlcblaonccaaApp
namespace Go.Proofs.Ytbjnlcblaonccaa
open Go.RowKit
section
variable {P : Program} {k : IntKind} {T : TypeId} {x y z : Nat}
theorem bin_shlN {yk : IntKind} (h : x * 2 ^ y = z) (hy : y ≤ k.bits) (hb : z < lid k) (w : World) : (binOp .shl T (.int k (x : Int)) (.int yk (y : Int))).run P w = .ok (.int k (z : Int)) w := by
  have e : k.wrap ((x : Int) * 2 ^ (min y k.bits)) = (z : Int) := by
    rw [Nat.min_eq_left hy]
    have e1 : (x : Int) * 2 ^ y = ((x * 2 ^ y : Nat) : Int) := by simp
    rw [e1, h, wrapN hb]
  have hn : ¬ ((y : Int) < 0) := by omega
  simp [binOp, Op.shift, hn, e]
end
theorem or_256 {x y : Nat} (hx : x < 256) : x ||| y * 2 ^ 8 = x + 256 * y := by
  have := Nat.shiftLeft_add_eq_or_of_lt (i := 8) (b := x) (by omega) y
  rw [Nat.shiftLeft_eq] at this
  rw [Nat.or_comm, ← this]; omega
/-- how many bytes a word pushes, and how many tell it -/
def tld (b : List UInt8) : Nat × Nat × Bool :=
  if 0 < byt b 0 ∧ byt b 0 ≤ 75 then (byt b 0, 1, true)
  else if byt b 0 = 76 ∧ 1 < b.length then (byt b 1, 2, true)
  else if byt b 0 = 77 ∧ 2 < b.length then (byt b 1 + 256 * byt b 2, 3, true)
  else if byt b 0 = 76 ∨ byt b 0 = 77 then (0, 0, false)
  else (0, 1, true)
theorem t3 {α β γ : Type} {a a' : α} {b b' : β} {c c' : γ} (h : (a, b, c) = (a', b', c')) : a = a' ∧ b = b' ∧ c = c' := by
  simp only [Prod.mk.injEq] at h; exact h
theorem t4 {α β γ δ : Type} {a a' : α} {b b' : β} {c c' : γ} {d d' : δ} (h : (a, b, c, d) = (a', b', c', d')) : a = a' ∧ b = b' ∧ c = c' ∧ d = d' := by
  simp only [Prod.mk.injEq] at h; exact h
section
variable {b : List UInt8}
theorem tld_1 (h : 0 < byt b 0) (h2 : byt b 0 ≤ 75) : tld b = (byt b 0, 1, true) := if_pos ⟨h, h2⟩
theorem tld_2 (h : byt b 0 = 76) (h2 : 1 < b.length) : tld b = (byt b 1, 2, true) := by unfold tld; rw [if_neg (by omega), if_pos ⟨h, h2⟩]
theorem tld_3 (h : byt b 0 = 77) (h2 : 2 < b.length) : tld b = (byt b 1 + 256 * byt b 2, 3, true) := by unfold tld; rw [if_neg (by omega), if_neg (by omega), if_pos ⟨h, h2⟩]
theorem tld_4 (h : byt b 0 = 76 ∧ ¬ 1 < b.length ∨ byt b 0 = 77 ∧ ¬ 2 < b.length) : tld b = (0, 0, false) := by unfold tld; rw [if_neg (by omega), if_neg (by omega), if_neg (by omega), if_pos (by omega)]
theorem tld_5 (h : ¬ (0 < byt b 0 ∧ byt b 0 ≤ 75)) (h2 : ¬ byt b 0 = 76) (h3 : ¬ byt b 0 = 77) : tld b = (0, 1, true) := by unfold tld; rw [if_neg h, if_neg (by omega), if_neg (by omega), if_neg (by omega)]
end
/-- the first word: its number, what it pushes, how many bytes it has -/
def nx1 (b : List UInt8) : Option (Nat × List UInt8 × Nat) :=
  match tld b with
  | (n, h, true) => if n ≤ b.length - h then some (byt b 0, (b.drop h).take n, h + n) else none
  | (_, _, false) => none
/-- the word at a place, the place behind it, and the error -/
def NX (s : List UInt8) (at_ : Int) : Nat × List UInt8 × Nat × Nat :=
  if at_ < 0 ∨ (s.length : Int) ≤ at_ then (0, [], 0, 1) else
  match nx1 (s.drop at_.toNat) with
  | none => (0, [], 0, 2)
  | some (o, p, k) => (o, p, at_.toNat + k, 0)
theorem NX_arg {s : List UInt8} {i : Int} (h : i < 0 ∨ (s.length : Int) ≤ i) : NX s i = (0, [], 0, 1) := if_pos h
theorem NX_none {s : List UInt8} {i : Nat} (hi : i < s.length) (h : nx1 (s.drop i) = none) : NX s (i : Int) = (0, [], 0, 2) := by
  unfold NX
  rw [if_neg (by omega), Int.toNat_natCast, h]
theorem NX_some {s : List UInt8} {i : Nat} {o k : Nat} {p : List UInt8} (hi : i < s.length) (h : nx1 (s.drop i) = some (o, p, k)) : NX s (i : Int) = (o, p, i + k, 0) := by
  unfold NX
  rw [if_neg (by omega), Int.toNat_natCast, h]
theorem nx1_no {b : List UInt8} {n h : Nat} {q : Bool} (ht : tld b = (n, h, q)) (hq : q = false ∨ b.length - h < n) : nx1 b = none := by
  unfold nx1
  rw [ht]
  cases q with
  | false => rfl
  | true => exact if_neg (by rcases hq with hq | hq; cases hq; omega)
theorem nx1_yes {b : List UInt8} {n h : Nat} (ht : tld b = (n, h, true)) (hn : n ≤ b.length - h) : nx1 b = some (byt b 0, (b.drop h).take n, h + n) := by
  unfold nx1
  rw [ht]
  exact if_pos hn
theorem byt_drop (l : List UInt8) (i j : Nat) : byt (l.drop i) j = byt l (i + j) := by simp [byt]
theorem tld_head {b : List UInt8} {n h : Nat} (ht : tld b = (n, h, true)) (hb : 0 < b.length) : 1 ≤ h ∧ h ≤ b.length ∧ n < 66000 := by
  have h0 := byt_lt b 0
  have h1 := byt_lt b 1
  have h2 := byt_lt b 2
  unfold tld at ht
  split at ht
  · simp only [Prod.mk.injEq] at ht; omega
  · split at ht
    · simp only [Prod.mk.injEq] at ht; omega
    · split at ht
      · simp only [Prod.mk.injEq] at ht; omega
      · split at ht
        · simp only [Prod.mk.injEq] at ht; simp at ht
        · simp only [Prod.mk.injEq] at ht; omega
theorem ofNat_byt (l : List UInt8) (j : Nat) : UInt8.ofNat (byt l j) = l.getD j 0 := by simp [byt]
theorem len_part {l : List UInt8} {i n : Nat} (h : i + n ≤ l.length) : i + n - i = ((l.drop i).take n).length := by simp; omega
theorem bcs_partn {l : List UInt8} {i n : Nat} : ((bcs l).drop (i * 1)).take ((i + n - i) * 1) = bcs ((l.drop i).take n) := by rw [bcs_part, Nat.add_sub_cancel_left]
theorem NX_prog {l : List UInt8} {j n h : Nat} (hj : j < l.length) (ht : tld (l.drop j) = (n, h, true)) (hle : n ≤ (l.drop j).length - h) : NX l (j : Int) = (byt (l.drop j) 0, ((l.drop j).drop h).take n, j + h + n, 0) := by
  rw [NX_some hj (nx1_yes ht hle), Nat.add_assoc]
theorem NX_prog0 {l : List UInt8} {j n h : Nat} {q : Bool} (hj : j < l.length) (ht : tld (l.drop j) = (n, h, q)) (hle : q = false ∨ (l.drop j).length - h < n) : NX l (j : Int) = (0, [], 0, 2) := NX_none hj (nx1_no ht hle)
def hd18 (op : Nat) : Nat := if op = 76 then 2 else if op = 77 then 3 else 1
theorem hd18_le (op : Nat) : 1 ≤ hd18 op ∧ hd18 op ≤ 3 := by unfold hd18; split; omega; split <;> omega
def rn (l : List UInt8) (j : Nat) : Nat :=
  if 1 ≤ byt l j ∧ byt l j ≤ 75 then byt l j else if byt l j = 76 then byt l (j + 1) else if byt l j = 77 then byt l (j + 1) + 256 * byt l (j + 2) else 0
theorem rn_1 {l : List UInt8} {j : Nat} (h : 1 ≤ byt l j) (h2 : byt l j ≤ 75) : rn l j = byt l j := if_pos ⟨h, h2⟩
theorem rn_2 {l : List UInt8} {j : Nat} (h : byt l j = 76) : rn l j = byt l (j + 1) := by unfold rn; rw [if_neg (by omega), if_pos h]
theorem rn_3 {l : List UInt8} {j : Nat} (h : byt l j = 77) : rn l j = byt l (j + 1) + 256 * byt l (j + 2) := by unfold rn; rw [if_neg (by omega), if_neg (by omega), if_pos h]
theorem rn_4 {l : List UInt8} {j : Nat} (h : ¬ (1 ≤ byt l j ∧ byt l j ≤ 75)) (h2 : ¬ byt l j = 76) (h3 : ¬ byt l j = 77) : rn l j = 0 := by unfold rn; rw [if_neg h, if_neg h2, if_neg h3]
theorem tld_ref {l : List UInt8} {j : Nat} (hj : j < l.length) (h : ¬ l.length < j + hd18 (byt l j)) : tld (l.drop j) = (rn l j, hd18 (byt l j), true) := by
  have hl : (l.drop j).length = l.length - j := by simp
  have e0 : byt (l.drop j) 0 = byt l j := by rw [byt_drop, Nat.add_zero]
  by_cases h1 : 1 ≤ byt l j ∧ byt l j ≤ 75
  · rw [tld_1 (by rw [e0]; omega) (by rw [e0]; omega), e0, rn_1 h1.1 h1.2]
    unfold hd18; rw [if_neg (by omega), if_neg (by omega)]
  · by_cases h2 : byt l j = 76
    · have hh : hd18 (byt l j) = 2 := by unfold hd18; rw [if_pos h2]
      rw [tld_2 (by rw [e0]; exact h2) (by rw [hl]; omega), rn_2 h2, byt_drop, hh]
    · by_cases h3 : byt l j = 77
      · have hh : hd18 (byt l j) = 3 := by unfold hd18; rw [if_neg h2, if_pos h3]
        rw [tld_3 (by rw [e0]; exact h3) (by rw [hl]; omega), rn_3 h3, byt_drop, byt_drop, hh]
      · have hh : hd18 (byt l j) = 1 := by unfold hd18; rw [if_neg h2, if_neg h3]
        rw [tld_5 (by rw [e0]; omega) (by rw [e0]; exact h2) (by rw [e0]; exact h3), rn_4 h1 h2 h3, hh]
theorem NX_ref {l : List UInt8} {j n : Nat} (hj : j < l.length) (h1 : ¬ l.length < j + hd18 (byt l j)) (hn : rn l j = n) (h2 : ¬ l.length - (j + hd18 (byt l j)) < n) : NX l (j : Int) = (byt l j, (l.drop (j + hd18 (byt l j))).take n, j + hd18 (byt l j) + n, 0) := by
  have ht := tld_ref hj h1
  rw [hn] at ht
  rw [NX_prog hj ht (by simp; omega), byt_drop, Nat.add_zero, List.drop_drop]
theorem NX_ref1 {l : List UInt8} {j : Nat} (hj : j < l.length) (h : l.length < j + hd18 (byt l j)) : NX l (j : Int) = (0, [], 0, 2) := by
  have hl : (l.drop j).length = l.length - j := by simp
  have e0 : byt (l.drop j) 0 = byt l j := by rw [byt_drop, Nat.add_zero]
  have hc : byt l j = 76 ∧ ¬ 1 < (l.drop j).length ∨ byt l j = 77 ∧ ¬ 2 < (l.drop j).length := by
    unfold hd18 at h
    split at h
    · left; exact ⟨by assumption, by omega⟩
    · split at h
      · right; exact ⟨by assumption, by omega⟩
      · omega
  exact NX_prog0 hj (tld_4 (by rw [e0]; exact hc)) (.inl rfl)
theorem NX_ref2 {l : List UInt8} {j n : Nat} (hj : j < l.length) (h1 : ¬ l.length < j + hd18 (byt l j)) (hn : rn l j = n) (h2 : l.length - (j + hd18 (byt l j)) < n) : NX l (j : Int) = (0, [], 0, 2) := by
  have ht := tld_ref hj h1
  rw [hn] at ht
  exact NX_prog0 hj ht (.inr (by simp; omega))
/-- words, as cells -/
abbrev Wd := Nat × List UInt8
def wcl : List Wd → List Value → List Value
  | [], _ => []
  | _ :: _, [] => []
  | w :: ws, v :: vs => .int .u8 (w.1 : Int) :: v :: wcl ws vs
theorem wcl_snoc : ∀ (ws : List Wd) (vs : List Value) (o : Nat) (p : List UInt8) (v : Value), vs.length = ws.length → wcl ws vs ++ [.int .u8 (o : Int), v] = wcl (ws ++ [(o, p)]) (vs ++ [v])
  | [], [], _, _, _, _ => rfl
  | [], _ :: _, _, _, _, h => by simp at h
  | _ :: _, [], _, _, _, h => by simp at h
  | w :: ws, u :: vs, o, p, v, h => by
    have := wcl_snoc ws vs o p v (by simpa using h)
    simp only [wcl, List.cons_append, this]
theorem wcl_length : ∀ (ws : List Wd) (vs : List Value), vs.length = ws.length → (wcl ws vs).length = ws.length * 2
  | [], _, _ => by simp [wcl]
  | _ :: _, [], h => by simp at h
  | w :: ws, u :: vs, h => by
    have := wcl_length ws vs (by simpa using h)
    simp only [wcl, List.length_cons, this]; omega
theorem wcl_get : ∀ (ws : List Wd) (vs : List Value) (i : Nat) (w : Wd) (v : Value), ws[i]? = some w → vs[i]? = some v → (wcl ws vs)[i * 2]? = some (.int .u8 (w.1 : Int)) ∧ (wcl ws vs)[i * 2 + 1]? = some v
  | [], _, _, _, _, h, _ => by simp at h
  | _ :: _, [], _, _, _, _, h => by simp at h
  | w :: ws, u :: vs, 0, w', v, h, h2 => by
    simp at h h2
    subst h; subst h2
    exact ⟨rfl, rfl⟩
  | w :: ws, u :: vs, i + 1, w', v, h, h2 => by
    have := wcl_get ws vs i w' v (by simpa using h) (by simpa using h2)
    rw [show (i + 1) * 2 = i * 2 + 2 by omega, show i * 2 + 2 + 1 = i * 2 + 1 + 2 by omega]
    simpa [wcl] using this
theorem wcl_ldv {ws : List Wd} {vs : List Value} {i : Nat} {w : Wd} {v : Value} (h : ws[i]? = some w) (h2 : vs[i]? = some v) : ldv true 2 (wcl ws vs) (i * 2) = some (.agg #[.int .u8 (w.1 : Int), v]) := by
  obtain ⟨a, b⟩ := wcl_get ws vs i w v h h2
  obtain ⟨l1, e1⟩ := List.getElem?_eq_some_iff.1 a
  obtain ⟨l2, e2⟩ := List.getElem?_eq_some_iff.1 b
  unfold ldv
  rw [show Nat.ble (i * 2 + 2) (wcl ws vs).length = true from Nat.ble_eq_true_of_le (by omega)]
  simp only [cond_true]
  congr 2
  apply congrArg
  rw [List.drop_eq_getElem_cons l1, List.drop_eq_getElem_cons l2, e1, e2]
  rfl
/-- all words -/
def parseF (l : List UInt8) : Nat → Nat → List Wd × Nat
  | 0, _ => ([], 0)
  | f + 1, i =>
    if l.length ≤ i then ([], 0) else
    match NX l (i : Int) with
    | (o, p, k, 0) => if (parseF l f k).2 = 0 then ((o, p) :: (parseF l f k).1, 0) else ([], (parseF l f k).2)
    | (_, _, _, e + 1) => ([], e + 1)
def glue (ws : List Wd) (r : List Wd × Nat) : List Wd × Nat := if r.2 = 0 then (ws ++ r.1, 0) else ([], r.2)
def AW (l : List UInt8) : List Wd × Nat := parseF l l.length 0
theorem NX_next {l : List UInt8} {i o k : Nat} {p : List UInt8} (hi : i < l.length) (h : NX l (i : Int) = (o, p, k, 0)) : i < k ∧ k ≤ l.length ∧ p.length ≤ l.length ∧ o < 256 := by
  unfold NX at h
  rw [if_neg (by omega), Int.toNat_natCast] at h
  split at h
  · simp at h
  · rename_i o' p' k' hn
    simp only [Prod.mk.injEq] at h
    obtain ⟨rfl, rfl, rfl, _⟩ := h
    unfold nx1 at hn
    split at hn
    · rename_i n h ht
      split at hn
      · simp only [Option.some.injEq, Prod.mk.injEq] at hn
        obtain ⟨rfl, rfl, rfl⟩ := hn
        have hl : (l.drop i).length = l.length - i := by simp
        obtain ⟨a, b, _⟩ := tld_head ht (by omega)
        refine ⟨by omega, by omega, ?_, byt_lt _ _⟩
        simp; omega
      · cases hn
    · cases hn
theorem parse_start {l : List UInt8} : AW l = glue [] (parseF l l.length 0) := by
  unfold glue
  split
  · rename_i h; unfold AW; exact Prod.ext rfl h
  · rename_i h; unfold AW
    have : ∀ f i, (parseF l f i).2 ≠ 0 → (parseF l f i).1 = [] := by
      intro f
      induction f with
      | zero => intro i h; exact absurd rfl h
      | succ f ih =>
        intro i h
        unfold parseF at h ⊢
        by_cases c : l.length ≤ i
        · rw [if_pos c]
        · rw [if_neg c] at h ⊢
          obtain ⟨⟨o, p, k, e⟩, hx⟩ : ∃ x, NX l (i : Int) = x := ⟨_, rfl⟩
          rw [hx] at h ⊢
          cases e with
          | zero =>
            simp only at h ⊢
            split
            · rename_i h2; rw [if_pos h2] at h; exact absurd rfl h
            · rfl
          | succ e => rfl
    exact Prod.ext (this _ _ h) rfl
theorem parse_step {l : List UInt8} {f i o k : Nat} {p : List UInt8} {ws : List Wd} {r : List Wd × Nat} (hi : i < l.length) (hf : l.length - i ≤ f) (h : NX l (i : Int) = (o, p, k, 0)) (hr : r = glue ws (parseF l f i)) : r = glue (ws ++ [(o, p)]) (parseF l (f - 1) k) := by
  obtain ⟨g, rfl⟩ : ∃ g, f = g + 1 := ⟨f - 1, by omega⟩
  rw [hr, Nat.add_sub_cancel]
  have e : parseF l (g + 1) i = if (parseF l g k).2 = 0 then ((o, p) :: (parseF l g k).1, 0) else ([], (parseF l g k).2) := by
    conv => lhs; unfold parseF
    rw [if_neg (by omega), h]
  rw [e]
  unfold glue
  by_cases h0 : (parseF l g k).2 = 0
  · rw [if_pos h0, if_pos rfl, if_pos h0]; simp
  · rw [if_neg h0, if_neg h0, if_neg h0]
theorem parse_err {l : List UInt8} {f i o k er : Nat} {p : List UInt8} {ws : List Wd} {r : List Wd × Nat} (hi : i < l.length) (hf : l.length - i ≤ f) (h : NX l (i : Int) = (o, p, k, er)) (h0 : er ≠ 0) (hr : r = glue ws (parseF l f i)) : r = ([], er) := by
  obtain ⟨g, rfl⟩ : ∃ g, f = g + 1 := ⟨f - 1, by omega⟩
  obtain ⟨e, rfl⟩ : ∃ e, er = e + 1 := ⟨er - 1, by omega⟩
  have e2 : parseF l (g + 1) i = ([], e + 1) := by
    conv => lhs; unfold parseF
    rw [if_neg (by omega), h]
  rw [hr, e2]; rfl
theorem parse_end {l : List UInt8} {f i : Nat} {ws : List Wd} {r : List Wd × Nat} (hi : ¬ i < l.length) (hr : r = glue ws (parseF l f i)) : r = (ws, 0) := by
  have e : parseF l f i = ([], 0) := by
    cases f with
    | zero => rfl
    | succ f => unfold parseF; rw [if_pos (by omega)]
  rw [hr, e]
  unfold glue
  simp
theorem okl_words {w : World} {Z : Nat → Prop} {B : Nat → Prop} {ws : List Wd} (h : ws = []) : OkL w Z B [.cel (.slice none ws.length 0) ws.length (wcl ws []), .bys [] (ws.map (·.2))] := by
  subst h
  intro i e he
  match i, he with
  | 0, he =>
    obtain rfl : Fz.cel (.slice none 0 0) 0 [] = e := by simpa [wcl] using he
    exact celv_nil
  | 1, he =>
    obtain rfl : Fz.bys [] [] = e := by simpa using he
    exact ⟨rfl, fun i v l h => by simp at h⟩
  | i + 2, he => simp at he
end Go.Proofs.Ytbjnlcblaonccaa
