/- Several texts in one, what this law needs of them: Fe, CurveP, Sh2P, PtP, OrdP, By, App, Mem, U, ShaP, SchP, SchO, Scal, Ref12. -/
import Derived.Test.YtejbajgpiecjcaaGreatSA1
import Derived.Laws.OwnMore
import Derived.Laws.IdiomStrings
import Derived.Laws.Concat
import Derived.Maps.AppendAt
import Derived.Laws.Append
import Derived.Laws.Strings

/- The field as residues: the ring's laws, inverses, roots. No program here. -/
namespace Go.Proofs.YtejbajgpiecjcaaGreat
namespace EM
section
variable {p : Nat} [NeZero p]
def rt (a : Fin p) : Fin p := fpow a ((p + 1) / 4)
end
end EM
instance : NeZero Pf := ⟨by decide⟩
def fe (a : Nat) : Fin Pf := Fin.ofNat Pf a
theorem fe_val (a : Nat) : (fe a).val = a % Pf := rfl
theorem fe_eq {a b : Nat} : fe a = fe b ↔ a % Pf = b % Pf := ⟨fun h => congrArg Fin.val h, fun h => Fin.ext h⟩
theorem fe_inj {a b : Nat} (ha : a < Pf) (hb : b < Pf) (h : fe a = fe b) : a = b := by
  have := fe_eq.1 h
  rwa [Nat.mod_eq_of_lt ha, Nat.mod_eq_of_lt hb] at this
theorem fe_mod (a : Nat) : fe (a % Pf) = fe a := fe_eq.2 (Nat.mod_mod _ _)
theorem fe_mul (a b : Nat) : fe (a * b) = fe a * fe b := by
  apply Fin.ext
  rw [Fin.val_mul, fe_val, fe_val, fe_val, ← Nat.mul_mod]
theorem fe_add (a b : Nat) : fe (a + b) = fe a + fe b := by
  apply Fin.ext
  rw [Fin.val_add, fe_val, fe_val, fe_val, ← Nat.add_mod]
theorem fe_sub (a b : Nat) : fe (fsub a b) = fe a - fe b := by
  apply Fin.ext
  rw [Fin.sub_def, fe_val]
  show fsub a b % Pf = (Pf - b % Pf + a % Pf) % Pf
  have := Nat.mod_lt b Pf_pos
  unfold fsub
  rw [Nat.mod_mod]
  exact congrArg (· % Pf) (by omega)
theorem fe_zero : fe 0 = 0 := rfl
theorem fe_one : fe 1 = 1 := rfl
theorem fe_pow (a n : Nat) : fe (a ^ n) = EM.fpow (fe a) n := by
  apply Fin.ext
  rw [EM.fpow_val, fe_val, fe_val, ← Nat.pow_mod]
theorem fmod_lt (a : Nat) : a % Pf < Pf := Nat.mod_lt _ Pf_pos
theorem fsub_ltP (a b : Nat) : fsub a b < Pf := Nat.mod_lt _ Pf_pos
theorem frt_lt (a : Nat) : frt a < Pf := Nat.mod_lt _ Pf_pos
theorem fe_frt (a : Nat) : fe (frt a) = EM.rt (fe a) := by
  unfold frt EM.rt
  rw [fe_mod, fe_pow]
theorem frB_iff (a : Nat) : frB a = true ↔ EM.rt (fe a) * EM.rt (fe a) = fe a := by
  unfold frB
  rw [decide_eq_true_eq, ← fe_eq, fe_mul, fe_frt]
theorem frV_of {a : Nat} (h : frB a = true) : frV a = frt a ∧ frt a % 2 = 0 ∨ frV a = fsub 0 (frt a) ∧ frt a % 2 = 1 := by
  unfold frB at h
  have h := of_decide_eq_true h
  unfold frV
  rw [if_pos h]
  split
  · right; exact ⟨rfl, by assumption⟩
  · left; exact ⟨rfl, by omega⟩
theorem frV_mul {a : Nat} (h : frB a = true) : frV a * frV a % Pf = a % Pf := by
  refine fe_inj (fmod_lt _) (fmod_lt _) ?_
  have h1 := (frB_iff a).1 h
  rcases frV_of h with ⟨e, _⟩ | ⟨e, _⟩
  · rw [e, fe_mod, fe_mod, fe_mul, fe_frt, h1]
  · rw [e, fe_mod, fe_mod, fe_mul, fe_sub, fe_frt, fe_zero, ← h1]; grind
theorem frV_ltP (a : Nat) : frV a < Pf := by
  unfold frV
  repeat' split
  · exact fsub_ltP _ _
  · exact frt_lt _
  · exact Pf_pos
theorem frt_val {a r : Nat} (h : EM.mp Pf 256 a ((Pf + 1) / 4) = r) : frt a = r := by
  rw [← h, EM.mp_eq Pf 256 a ((Pf + 1) / 4) (by decide)]; rfl
end Go.Proofs.YtejbajgpiecjcaaGreat

/- The curve y^2 = x^3 + 7: its points are a group; the order. Plain law, no program here. -/
namespace Go.Proofs.YtejbajgpiecjcaaGreat
namespace EM
set_option linter.unusedSectionVars false
section
variable {p : Nat} [NeZero p]
structure Good (p : Nat) [NeZero p] : Prop where
  prime : Pr p
  two : (2 : Fin p) ≠ 0
  /-- no point with y = 0 -/
  cube : ∀ x : Fin p, x * x * x + 7 ≠ 0
def finv (a : Fin p) : Fin p := fpow a (p - 2)
theorem finv_mul (h : Pr p) (a : Fin p) (ha : a ≠ 0) : a * finv a = 1 := by
  have hp := h.1
  have h1 := fermat h a ha
  have h2 : p - 1 = (p - 2) + 1 := by omega
  rw [h2, fpow] at h1
  unfold finv
  grind
theorem fcancel (h : Pr p) {a b c : Fin p} (ha : a ≠ 0) (hbc : a * b = a * c) : b = c := by
  have hz : a * (b - c) = 0 := by grind
  rcases fmul_zero_of h _ _ hz with h1 | h1
  · exact absurd h1 ha
  · grind
theorem fone_ne (h : Pr p) : (1 : Fin p) ≠ 0 := by
  intro h0
  have := congrArg Fin.val h0
  have h2 := h.1
  have e1 : (1 : Fin p).val = 1 % p := rfl
  have e0 : (0 : Fin p).val = 0 % p := rfl
  rw [e1, e0, Nat.mod_eq_of_lt (by omega)] at this
  simp at this
inductive Pt (p : Nat) where
  | O
  | A (x y : Fin p)
deriving DecidableEq
def Pt.on : Pt p → Prop
  | .O => True
  | .A x y => y * y = x * x * x + 7
def Pt.neg : Pt p → Pt p
  | .O => .O
  | .A x y => .A x (-y)
def slope (x1 y1 x2 y2 : Fin p) : Fin p := if x1 = x2 then (3 * (x1 * x1)) * finv (y1 + y1) else (y2 - y1) * finv (x2 - x1)
def Pt.add : Pt p → Pt p → Pt p
  | .O, q => q
  | q, .O => q
  | .A x1 y1, .A x2 y2 =>
    if x1 = x2 ∧ (y1 ≠ y2 ∨ y1 = 0) then .O
    else
      let s := slope x1 y1 x2 y2
      let x := s * s - x1 - x2
      .A x (s * (x1 - x) - y1)
def IsSlope (s x1 y1 x2 y2 : Fin p) : Prop := s * (x1 - x2) = y1 - y2 ∧ s * (y1 + y2) = x1 * x1 + x1 * x2 + x2 * x2
theorem IsSlope.symm {s x1 y1 x2 y2 : Fin p} (h : IsSlope s x1 y1 x2 y2) : IsSlope s x2 y2 x1 y1 := by
  obtain ⟨h1, h2⟩ := h
  constructor <;> grind
def Opp (x1 y1 x2 y2 : Fin p) : Prop := x1 = x2 ∧ y1 = -y2
variable (G : Good p)
include G
theorem y_ne {x y : Fin p} (h : y * y = x * x * x + 7) : y ≠ 0 := by
  rintro rfl
  exact G.cube x (by grind)
theorem yy_ne {x y : Fin p} (h : y * y = x * x * x + 7) : y + y ≠ 0 := by
  intro h0
  have h1 : 2 * y = 0 := by grind
  rcases fmul_zero_of G.prime _ _ h1 with h2 | h2
  · exact G.two h2
  · exact y_ne G h h2
theorem same_x {x1 y1 x2 y2 : Fin p} (h1 : y1 * y1 = x1 * x1 * x1 + 7) (h2 : y2 * y2 = x2 * x2 * x2 + 7) (hx : x1 = x2) : y1 = y2 ∨ y1 = -y2 := by
  subst hx
  have hz : (y1 - y2) * (y1 + y2) = 0 := by grind
  rcases fmul_zero_of G.prime _ _ hz with h | h
  · left; grind
  · right; grind
theorem isSlope_slope {x1 y1 x2 y2 : Fin p} (h1 : y1 * y1 = x1 * x1 * x1 + 7) (h2 : y2 * y2 = x2 * x2 * x2 + 7) (hn : ¬ Opp x1 y1 x2 y2) : IsSlope (slope x1 y1 x2 y2) x1 y1 x2 y2 := by
  unfold slope
  by_cases hx : x1 = x2
  · rw [if_pos hx]
    have hy : y1 = y2 := by
      rcases same_x G h1 h2 hx with h | h
      · exact h
      · exact absurd ⟨hx, h⟩ hn
    subst hx; subst hy
    have hi := finv_mul G.prime (y1 + y1) (yy_ne G h1)
    constructor
    · grind
    · grind
  · rw [if_neg hx]
    have hd : x2 - x1 ≠ 0 := by
      intro h0; exact hx (by grind)
    have hi := finv_mul G.prime (x2 - x1) hd
    have e1 : (y2 - y1) * finv (x2 - x1) * (x1 - x2) = y1 - y2 := by grind
    refine ⟨e1, ?_⟩
    refine fcancel G.prime hd ?_
    have e2 : (x2 - x1) * ((y2 - y1) * finv (x2 - x1) * (y1 + y2)) = (y2 - y1) * (y1 + y2) := by grind
    rw [e2]
    grind
theorem slope_unique {s t x1 y1 x2 y2 : Fin p} (h1 : y1 * y1 = x1 * x1 * x1 + 7) (h2 : y2 * y2 = x2 * x2 * x2 + 7) (hn : ¬ Opp x1 y1 x2 y2)
    (hs : IsSlope s x1 y1 x2 y2) (ht : IsSlope t x1 y1 x2 y2) : s = t := by
  by_cases hx : x1 = x2
  · have hy : y1 = y2 := by
      rcases same_x G h1 h2 hx with h | h
      · exact h
      · exact absurd ⟨hx, h⟩ hn
    subst hy
    refine fcancel G.prime (yy_ne G h1) ?_
    have := hs.2
    have := ht.2
    grind
  · refine fcancel G.prime (a := x1 - x2) (fun h0 => hx (by grind)) ?_
    have := hs.1
    have := ht.1
    grind
theorem add_eq {s x1 y1 x2 y2 : Fin p} (h1 : y1 * y1 = x1 * x1 * x1 + 7) (h2 : y2 * y2 = x2 * x2 * x2 + 7) (hn : ¬ Opp x1 y1 x2 y2) (hs : IsSlope s x1 y1 x2 y2) :
    Pt.add (.A x1 y1) (.A x2 y2) = .A (s * s - x1 - x2) (s * (x1 - (s * s - x1 - x2)) - y1) := by
  have hc : ¬ (x1 = x2 ∧ (y1 ≠ y2 ∨ y1 = 0)) := by
    rintro ⟨hx, hy⟩
    rcases hy with hy | hy
    · rcases same_x G h1 h2 hx with h | h
      · exact hy h
      · exact hn ⟨hx, h⟩
    · exact y_ne G h1 hy
  have hu := slope_unique G h1 h2 hn (isSlope_slope G h1 h2 hn) hs
  simp only [Pt.add, if_neg hc, hu]
theorem add_opp {x y : Fin p} (h1 : y * y = x * x * x + 7) : Pt.add (.A x y) (.A x (-y)) = .O := by
  have hc : x = x ∧ (y ≠ -y ∨ y = 0) := by
    refine ⟨rfl, .inl fun h => yy_ne G h1 (by grind)⟩
  show (if x = x ∧ (y ≠ -y ∨ y = 0) then Pt.O else _) = Pt.O
  rw [if_pos hc]
theorem on_third {s x1 y1 x2 y2 : Fin p} (h1 : y1 * y1 = x1 * x1 * x1 + 7) (hs : IsSlope s x1 y1 x2 y2) :
    let x := s * s - x1 - x2
    let y := s * (x1 - x) - y1
    y * y = x * x * x + 7 := by
  obtain ⟨hs1, hs2⟩ := hs
  intro x y
  grind
end
section
variable {R : Type} [Lean.Grind.CommRing R]
theorem assoc_end {f l m u b c yA yC xD yD x : R} (h : (f - l) * (xD - c) = yD - yC) (hy : yA = yC + l * (u - b) + m * (b - c)) (hu : u = c + f * (l - m)) (hx : x = (f - l) * (f - l) - xD - c) (hxD : xD = l * l - u - b) :
    (f - l) * (xD - x) - yD = (f - m) * (u - x) - yA := by
  have e1 : (f - l) * (xD - x) - yD = (f - l) * (xD - c) + (f - l) * (c - x) - yD := by clear h hy hu hx hxD; grind
  rw [e1, h]
  have e2 : yD - yC + (f - l) * (c - x) - yD = (f - l) * (c - x) - yC := by clear h hy hu hx hxD e1; grind
  rw [e2]
  clear e1 e2 h
  subst hx
  subst hxD
  subst hy
  subst hu
  grind
theorem assoc_K0 {xA yA xB yB xC yC l m : R} (h1 : l * (xA - xB) = yA - yB) (h1' : l * (yA + yB) = xA * xA + xA * xB + xB * xB)
    (h2 : m * (xB - xC) = yB - yC) (h2' : m * (yB + yC) = xB * xB + xB * xC + xC * xC) :
    (xA - xC) * (xA + xB + xC - l * m) = (l - m) * (yA + yC) := by
  have e1 : l * (yB - yC) = l * (m * (xB - xC)) := by rw [h2]
  have e2 : m * (yA - yB) = m * (l * (xA - xB)) := by rw [h1]
  grind
theorem assoc_K {xA yA xB yB xC yC l m f : R} (h1 : l * (xA - xB) = yA - yB) (h1' : l * (yA + yB) = xA * xA + xA * xB + xB * xB)
    (h2 : m * (xB - xC) = yB - yC) (h2' : m * (yB + yC) = xB * xB + xB * xC + xC * xC) (hf : f * (l - m) = xA - xC) :
    (l - m) * (f * (xA + xB + xC - l * m)) = (l - m) * (yA + yC) := by
  have e1 : l * (yB - yC) = l * (m * (xB - xC)) := by rw [h2]
  have e2 : m * (yA - yB) = m * (l * (xA - xB)) := by rw [h1]
  have e : (xA - xC) * (xA + xB + xC - l * m) = (l - m) * (yA + yC) := by clear hf; grind
  have e3 : (l - m) * (f * (xA + xB + xC - l * m)) = (f * (l - m)) * (xA + xB + xC - l * m) := by grind
  rw [e3, hf, e]
theorem assoc_s1 {u yA b yB c yC l m f x : R} (h1 : l * (u - b) = yA - yB) (h2 : m * (b - c) = yB - yC) (hf : f * (l - m) = u - c) (hK : f * (u + b + c - l * m) = yA + yC) (hx : x = l * l - u - b) :
    (f - l) * (x - c) = l * (u - x) - yA - yC := by
  have e1 : l * (f * (l - m)) = l * (u - c) := by rw [hf]
  subst hx
  grind
theorem assoc_s2 {u yA b yB c yC l m f x y : R} (h1 : l * (u - b) = yA - yB) (h1' : l * (yA + yB) = u * u + u * b + b * b) (h2 : m * (b - c) = yB - yC) (hf : f * (l - m) = u - c) (hK : f * (u + b + c - l * m) = yA + yC) (hx : x = l * l - u - b) (hy : y = l * (u - x) - yA) :
    (f - l) * (y + yC) = x * x + x * c + c * c := by
  have s1 := assoc_s1 h1 h2 hf hK hx
  have e0 : y = yC + (f - l) * (x - c) := by rw [hy, s1]; grind
  -- 2 yC
  have t2 : yC + yC = f * (u + b + c - l * m) - l * u + m * c + (l - m) * b := by
    have : yC + yC = (yA + yC) - (yA - yB) - (yB - yC) := by clear h1 h1' h2 hf hK hx hy s1 e0; grind
    rw [this, ← hK, ← h1, ← h2]
    clear this h1 h1' h2 hf hK hx hy s1 e0
    grind
  have r1 : l * (f * (u + b + c - l * m)) + l * m * (b - c) = u * u + u * b + b * b := by
    rw [hK, ← h1']
    have : l * m * (b - c) = l * (yB - yC) := by rw [← h2]; clear h1 h1' h2 hf hK hx hy s1 e0 t2; grind
    rw [this]
    clear this h1 h1' h2 hf hK hx hy s1 e0 t2
    grind
  have i1 : x - c = l * (l - m) - (u + b + c - l * m) := by rw [hx]; clear h1 h1' h2 hf hK hx hy s1 e0 t2 r1; grind
  have i2 : y + yC = -(l * x) + b * (l - m) + c * m := by
    have e1 : l * (f * (l - m)) = l * (u - c) := by rw [hf]
    have : y + yC = (yC + yC) + (f - l) * (x - c) := by rw [e0]; clear e1 t2 i1 hx r1 e0 s1 hy hK hf h2 h1' h1; grind
    rw [this, t2, i1, hx]
    clear this t2 i1 hx r1 e0 s1 hy hK hf h2 h1' h1
    grind
  rw [i2]
  have hu : u = c + f * (l - m) := by rw [hf]; clear i2 t2 i1 hx r1 e0 s1 hy hK hf h2 h1' h1; grind
  clear i2 t2 e0 s1 hy hK h2 h1' h1 i1 hf
  subst hx
  subst hu
  grind
end
section
variable {p : Nat} [NeZero p] (G : Good p)
include G
theorem add_comm' : ∀ {P Q : Pt p}, P.on → Q.on → P.add Q = Q.add P
  | .O, .O, _, _ => rfl
  | .O, .A _ _, _, _ => rfl
  | .A _ _, .O, _, _ => rfl
  | .A x1 y1, .A x2 y2, h1, h2 => by
    by_cases hn : Opp x1 y1 x2 y2
    · obtain ⟨rfl, rfl⟩ := hn
      have e := add_opp G h2
      have h1' : (-y2) * (-y2) = x1 * x1 * x1 + 7 := h1
      have e2 := add_opp G h1'
      rw [show - -y2 = y2 by grind] at e2
      rw [e, e2]
    · have hn2 : ¬ Opp x2 y2 x1 y1 := fun ⟨a, b⟩ => hn ⟨a.symm, by rw [b]; grind⟩
      have hs := isSlope_slope G h1 h2 hn
      rw [add_eq G h1 h2 hn hs, add_eq G h2 h1 hn2 hs.symm]
      generalize slope x1 y1 x2 y2 = s at hs
      obtain ⟨a, _⟩ := hs
      have ex : s * s - x1 - x2 = s * s - x2 - x1 := by grind
      rw [ex]
      congr 1
      grind
theorem on_add : ∀ {P Q : Pt p}, P.on → Q.on → (P.add Q).on
  | .O, .O, _, _ => trivial
  | .O, .A _ _, _, h => h
  | .A _ _, .O, h, _ => h
  | .A x1 y1, .A x2 y2, h1, h2 => by
    by_cases hn : Opp x1 y1 x2 y2
    · obtain ⟨rfl, rfl⟩ := hn
      have h1' : (-y2) * (-y2) = x1 * x1 * x1 + 7 := h1
      have e2 := add_opp G h1'
      rw [show - -y2 = y2 by grind] at e2
      rw [e2]; trivial
    · have hs := isSlope_slope G h1 h2 hn
      rw [add_eq G h1 h2 hn hs]
      exact on_third G h1 hs
omit G in
theorem neg_neg' : ∀ P : Pt p, P.neg.neg = P
  | .O => rfl
  | .A x y => by show Pt.A x (- -y) = Pt.A x y; rw [show - -y = y by grind]
omit G in
theorem on_neg : ∀ {P : Pt p}, P.on → P.neg.on
  | .O, _ => trivial
  | .A x y, h => by
    show (-y) * (-y) = x * x * x + 7
    have h : y * y = x * x * x + 7 := h
    rw [← h]; grind
theorem neg_add_self : ∀ {P : Pt p}, P.on → P.neg.add P = .O
  | .O, _ => rfl
  | .A x y, h => by
    have h' := on_neg (P := .A x y) h
    have e := add_opp G (x := x) (y := -y) h'
    rw [show - -y = y by grind] at e
    exact e
theorem cancel : ∀ {P Q : Pt p}, P.on → Q.on → P.neg.add (P.add Q) = Q
  | .O, .O, _, _ => rfl
  | .O, .A _ _, _, _ => rfl
  | .A x y, .O, h, _ => neg_add_self G h
  | .A x1 y1, .A x2 y2, h1, h2 => by
    by_cases hn : Opp x1 y1 x2 y2
    · obtain ⟨rfl, rfl⟩ := hn
      have h1' : (-y2) * (-y2) = x1 * x1 * x1 + 7 := h1
      have e2 := add_opp G h1'
      rw [show - -y2 = y2 by grind] at e2
      rw [e2]
      show Pt.A x1 (- -y2) = Pt.A x1 y2
      rw [show - -y2 = y2 by grind]
    · have hs := isSlope_slope G h1 h2 hn
      have h3 := on_add G (P := .A x1 y1) (Q := .A x2 y2) h1 h2
      rw [add_eq G h1 h2 hn hs] at h3 ⊢
      generalize slope x1 y1 x2 y2 = s at hs h3
      obtain ⟨a, b⟩ := hs
      have hy := yy_ne G h1
      have h1n : (-y1) * (-y1) = x1 * x1 * x1 + 7 := on_neg (P := .A x1 y1) h1
      show Pt.add (.A x1 (-y1)) _ = _
      have hn' : ¬ Opp x1 (-y1) (s * s - x1 - x2) (s * (x1 - (s * s - x1 - x2)) - y1) := by
        rintro ⟨e1, e2⟩
        apply hy
        rw [← e1] at e2
        grind
      have hs' : IsSlope (-s) x1 (-y1) (s * s - x1 - x2) (s * (x1 - (s * s - x1 - x2)) - y1) := by
        constructor
        · grind
        · clear h3 hn' hy hn h1n
          have c1 : y1 * y1 = x1 * x1 * x1 + 7 := h1
          have e : s * (y1 + y2) = s * (y1 + y1) - s * (s * (x1 - x2)) := by rw [a]; grind
          rw [e] at b
          clear e a h2 c1 h1
          grind
      rw [add_eq G h1n h3 hn' hs']
      have ex : -s * -s - x1 - (s * s - x1 - x2) = x2 := by grind
      rw [ex]
      congr 1
      grind
theorem neg_add : ∀ {P Q : Pt p}, P.on → Q.on → (P.add Q).neg = P.neg.add Q.neg
  | .O, .O, _, _ => rfl
  | .O, .A _ _, _, _ => rfl
  | .A _ _, .O, _, _ => rfl
  | .A x1 y1, .A x2 y2, h1, h2 => by
    have h1n : (-y1) * (-y1) = x1 * x1 * x1 + 7 := on_neg (P := .A x1 y1) h1
    have h2n : (-y2) * (-y2) = x2 * x2 * x2 + 7 := on_neg (P := .A x2 y2) h2
    by_cases hn : Opp x1 y1 x2 y2
    · obtain ⟨rfl, rfl⟩ := hn
      have e1 := add_opp G h2n
      rw [show - -y2 = y2 by grind] at e1
      have e2 := add_opp G h2
      rw [e1]
      show Pt.O = Pt.add (.A x1 (- -y2)) (.A x1 (-y2))
      rw [show - -y2 = y2 by grind, e2]
    · have hn' : ¬ Opp x1 (-y1) x2 (-y2) := fun ⟨a, b⟩ => hn ⟨a, by grind⟩
      have hs := isSlope_slope G h1 h2 hn
      rw [add_eq G h1 h2 hn hs]
      generalize slope x1 y1 x2 y2 = s at hs
      have hs' : IsSlope (-s) x1 (-y1) x2 (-y2) := by
        obtain ⟨a, b⟩ := hs
        exact ⟨by grind, by grind⟩
      show Pt.A _ _ = Pt.add (.A x1 (-y1)) (.A x2 (-y2))
      rw [add_eq G h1n h2n hn' hs']
      rw [show -s * -s - x1 - x2 = s * s - x1 - x2 by grind]
      congr 1
      grind
theorem assoc : ∀ {P Q T : Pt p}, P.on → Q.on → T.on → (P.add Q).add T = P.add (Q.add T)
  | .O, _, _, _, _, _ => by cases ‹Pt p› <;> cases ‹Pt p› <;> rfl
  | .A _ _, .O, T, _, _, _ => by cases T <;> rfl
  | .A x y, .A x2 y2, .O, h1, h2, _ => by
    have e : ∀ P : Pt p, P.add .O = P := fun P => by cases P <;> rfl
    rw [e, e]
  | .A u yA, .A b yB, .A c yC, h1, h2, h3 => by
    have key : ∀ {P Q T : Pt p}, P.on → Q.on → T.on → T = (P.add Q).neg → (P.add Q).add T = P.add (Q.add T) := by
      intro P Q T hP hQ hT e
      subst e
      have hPQ := on_add G hP hQ
      rw [add_comm' G hPQ (on_neg hPQ), neg_add_self G hPQ, add_comm' G hP hQ, neg_add G hQ hP]
      have hQn := on_neg hQ
      have hPn := on_neg hP
      have := cancel G hQn hPn
      rw [neg_neg'] at this
      rw [this, add_comm' G hP hPn, neg_add_self G hP]
    have hO : ∀ P : Pt p, P.add .O = P := fun P => by cases P <;> rfl
    by_cases hAB : Opp u yA b yB
    · -- P = -Q
      have e : (Pt.A u yA : Pt p) = (Pt.A b yB : Pt p).neg := by obtain ⟨a, c⟩ := hAB; rw [a, c]; rfl
      rw [e, neg_add_self G h2, cancel G h2 h3]; rfl
    by_cases hBC : Opp b yB c yC
    · have e : (Pt.A c yC : Pt p) = (Pt.A b yB : Pt p).neg := by
        obtain ⟨a, d⟩ := hBC; rw [← a]; show Pt.A b yC = Pt.A b (-yB); rw [d]; congr 1; grind
      have hn := on_neg (P := .A b yB) h2
      have hab := on_add G (P := .A u yA) (Q := .A b yB) h1 h2
      rw [e, add_comm' G h2 hn, neg_add_self G h2, hO, add_comm' G hab hn, add_comm' G h1 h2, cancel G h2 h1]
    by_cases hPT : (Pt.A c yC : Pt p) = Pt.A u yA
    · rw [hPT]
      have hab := on_add G (P := .A u yA) (Q := .A b yB) h1 h2
      rw [add_comm' G h2 h1, add_comm' G hab h1]
    by_cases hD : (Pt.A c yC : Pt p) = (Pt.add (.A u yA) (.A b yB)).neg
    · exact key h1 h2 h3 hD
    by_cases hE : (Pt.A u yA : Pt p) = (Pt.add (.A b yB) (.A c yC)).neg
    · -- by the mirror
      have hbc := on_add G (P := .A b yB) (Q := .A c yC) h2 h3
      have hab := on_add G (P := .A u yA) (Q := .A b yB) h1 h2
      have := key (P := .A c yC) (Q := .A b yB) (T := .A u yA) h3 h2 h1 (by rw [add_comm' G h3 h2]; exact hE)
      rw [add_comm' G h3 h2, add_comm' G h2 h1, add_comm' G hbc h1, add_comm' G h3 hab] at this
      exact this.symm
    have hl := isSlope_slope G h1 h2 hAB
    have hm := isSlope_slope G h2 h3 hBC
    have hd3 := on_add G (P := .A u yA) (Q := .A b yB) h1 h2
    have he3 := on_add G (P := .A b yB) (Q := .A c yC) h2 h3
    rw [add_eq G h1 h2 hAB hl] at hd3 hD ⊢
    rw [add_eq G h2 h3 hBC hm] at he3 hE ⊢
    generalize slope u yA b yB = l at hl hd3 hD
    generalize slope b yB c yC = m at hm he3 hE
    obtain ⟨l1, l2⟩ := hl
    obtain ⟨m1, m2⟩ := hm
    have hK0 : (u - c) * (u + b + c - l * m) = (l - m) * (yA + yC) := assoc_K0 l1 l2 m1 m2
    have hd : l - m ≠ 0 := by
      intro h0
      have hlm : m = l := by clear hK0 l1 l2 m1 m2 hd3 he3 h1 h2 h3; grind
      subst hlm
      have hz : (u - c) * (u + b + c - m * m) = 0 := by rw [hK0, h0]; clear hK0 l1 l2 m1 m2 hd3 he3 h1 h2 h3; grind
      rcases fmul_zero_of G.prime _ _ hz with hu | hu
      · have huc : u = c := by clear hK0 hz l1 l2 m1 m2 hd3 he3 h1 h2 h3; grind
        subst huc
        rcases same_x G h1 h3 rfl with hy | hy
        · exact hPT (by rw [hy])
        · apply yy_ne G h1
          clear hK0 hz l2 m2 hd3 he3 h1 h2 h3
          grind
      · apply hD
        have ex : c = m * m - u - b := by clear hK0 hz l1 l2 m1 m2 hd3 he3 h1 h2 h3; grind
        show Pt.A c yC = Pt.A (m * m - u - b) (-(m * (u - (m * m - u - b)) - yA))
        rw [← ex]
        congr 1
        clear hK0 hz l2 m2 hd3 he3 h1 h2 h3 ex hu
        grind
    obtain ⟨f, hf⟩ : ∃ f, f * (l - m) = u - c := ⟨(u - c) * finv (l - m), by
      have := finv_mul G.prime (l - m) hd
      rw [fmul_assoc, fmul_comm (finv _), this, fmul_one]⟩
    have hK : f * (u + b + c - l * m) = yA + yC := fcancel G.prime hd (assoc_K l1 l2 m1 m2 hf)
    have hfm : f * (m - l) = c - u := by
      have : f * (m - l) = -(f * (l - m)) := by clear hK0 hK hf l1 l2 m1 m2 hd3 he3 h1 h2 h3; grind
      rw [this, hf]; clear hK0 hK hf l1 l2 m1 m2 hd3 he3 h1 h2 h3 this; grind
    have hKm : f * (c + b + u - m * l) = yC + yA := by
      have : f * (c + b + u - m * l) = f * (u + b + c - l * m) := by clear hK0 hK hf hfm l1 l2 m1 m2 hd3 he3 h1 h2 h3; grind
      rw [this, hK]; clear hK0 hK hf hfm l1 l2 m1 m2 hd3 he3 h1 h2 h3 this; grind
    have m1' : m * (c - b) = yC - yB := by clear hK0 hK hf hfm hKm l1 l2 m2 hd3 he3 h1 h2 h3; grind
    have l1' : l * (b - u) = yB - yA := by clear hK0 hK hf hfm hKm m1 m1' l2 m2 hd3 he3 h1 h2 h3; grind
    have m2' : m * (yC + yB) = c * c + c * b + b * b := by clear hK0 hK hf hfm hKm m1 m1' l1 l1' l2 hd3 he3 h1 h2 h3; grind
    have hey : m * (b - (m * m - b - c)) - yB = m * (c - (m * m - c - b)) - yC := by clear hK0 hK hf hfm hKm m1' l1 l1' l2 m2 m2' hd3 he3 h1 h2 h3; grind
    have hex : m * m - b - c = m * m - c - b := by clear hK0 hK hf hfm hKm m1 m1' l1 l1' l2 m2 m2' hd3 he3 h1 h2 h3 hey; grind
    rw [hey] at he3 hE ⊢
    rw [hex] at he3 hE ⊢
    have sD : IsSlope (f - l) (l * l - u - b) (l * (u - (l * l - u - b)) - yA) c yC := ⟨assoc_s1 l1 m1 hf hK rfl, assoc_s2 l1 l2 m1 hf hK rfl rfl⟩
    have sE : IsSlope (f - m) (m * m - c - b) (m * (c - (m * m - c - b)) - yC) u yA := ⟨assoc_s1 m1' l1' hfm hKm rfl, assoc_s2 m1' m2' l1' hfm hKm rfl rfl⟩
    have nD : ¬ Opp (l * l - u - b) (l * (u - (l * l - u - b)) - yA) c yC := by
      rintro ⟨e1, e2⟩
      apply hD
      show Pt.A c yC = Pt.A (l * l - u - b) (-(l * (u - (l * l - u - b)) - yA))
      rw [e2, e1]
      congr 1
      clear hK0 hK hf hfm hKm m1 m1' l1 l1' l2 m2 m2' hd3 he3 h1 h2 h3 hey sD sE e1 e2 hex
      grind
    have nE : ¬ Opp u yA (m * m - c - b) (m * (c - (m * m - c - b)) - yC) := by
      rintro ⟨e1, e2⟩
      apply hE
      show Pt.A u yA = Pt.A (m * m - c - b) (-(m * (c - (m * m - c - b)) - yC))
      rw [← e2, ← e1]
    rw [add_eq G hd3 h3 nD sD, add_eq G h1 he3 nE sE.symm]
    have s1 := sD.1
    clear sD sE nD nE hd3 he3 hE hD h1 h2 h3 hPT hAB hBC key hO hK0 hK hKm hfm m1' l1' m2' m2 l2 hd hex hey
    have hu : u = c + f * (l - m) := by rw [hf]; clear hf l1 m1 s1; grind
    have hy : yA = yC + l * (u - b) + m * (b - c) := by rw [l1, m1]; clear l1 m1 hf hu s1; grind
    have ex : (f - l) * (f - l) - (l * l - u - b) - c = (f - m) * (f - m) - u - (m * m - c - b) := by
      clear l1 m1 hf s1 hy; subst hu; grind
    rw [← ex]
    congr 1
    exact assoc_end s1 hy hu rfl rfl
end
section
variable {α : Type} [DecidableEq α] (t : α → α)
def it : Nat → α → α
  | 0, x => x
  | k + 1, x => it k (t x)
theorem it_add : ∀ (j k : Nat) (x : α), it t (j + k) x = it t k (it t j x)
  | 0, k, x => by rw [Nat.zero_add]; rfl
  | j + 1, k, x => by rw [show j + 1 + k = (j + k) + 1 by omega]; exact it_add j k (t x)
structure Exact (n : Nat) (L : List α) : Prop where
  pos : 0 < n
  inside : ∀ x ∈ L, t x ∈ L
  whole : ∀ x ∈ L, it t n x = x
  free : ∀ x ∈ L, ∀ i, 0 < i → i < n → it t i x ≠ x
  nodup : L.Nodup
theorem it_mem {n : Nat} {L : List α} (h : Exact t n L) : ∀ (k : Nat) (x : α), x ∈ L → it t k x ∈ L
  | 0, _, hx => hx
  | k + 1, x, hx => it_mem h k (t x) (h.inside x hx)
theorem it_mod {n : Nat} {L : List α} (h : Exact t n L) {x : α} (hx : x ∈ L) : ∀ k, it t k x = it t (k % n) x := by
  intro k
  induction k using Nat.strongRecOn with
  | _ k ih =>
    rcases Nat.lt_or_ge k n with hk | hk
    · rw [Nat.mod_eq_of_lt hk]
    · have hn := h.pos
      have e : it t k x = it t (k - n) x := by
        conv => lhs; rw [show k = n + (k - n) by omega]
        rw [it_add, h.whole x hx]
      rw [e, ih (k - n) (by omega), Nat.mod_eq_sub_mod hk]
def orb (n : Nat) (x : α) : List α := (List.range n).map fun i => it t i x
theorem orb_nodup {n : Nat} {L : List α} (h : Exact t n L) {x : α} (hx : x ∈ L) : (orb t n x).Nodup := by
  have key : ∀ i j, i < j → j < n → it t i x ≠ it t j x := by
    intro i j hij hj e
    have e2 := congrArg (it t (n - i)) e
    rw [← it_add, ← it_add, show i + (n - i) = n by omega, h.whole x hx, show j + (n - i) = n + (j - i) by omega, it_add, h.whole x hx] at e2
    exact h.free x hx (j - i) (by omega) (by omega) e2.symm
  unfold orb
  rw [List.nodup_iff_pairwise_ne, List.pairwise_map]
  have hp := List.pairwise_lt_range (n := n)
  refine (List.Pairwise.and_mem.1 hp).imp ?_
  rintro i j ⟨hi, hj, hij⟩
  exact key i j hij (List.mem_range.1 hj)
theorem mem_orb {n : Nat} {L : List α} (h : Exact t n L) {x : α} (hx : x ∈ L) (k : Nat) : it t k x ∈ orb t n x := by
  rw [it_mod t h hx k]
  exact List.mem_map.2 ⟨k % n, List.mem_range.2 (Nat.mod_lt _ h.pos), rfl⟩
theorem filter_two {β : Type} (f : β → Bool) : ∀ l : List β, (l.filter f).length + (l.filter fun y => !f y).length = l.length
  | [] => rfl
  | y :: l => by
    have := filter_two f l
    cases hf : f y <;> simp [List.filter_cons, hf] <;> omega
theorem exact_dvd {n : Nat} : ∀ (N : Nat) (L : List α), L.length = N → Exact t n L → n ∣ L.length := by
  intro N
  induction N using Nat.strongRecOn with
  | _ N ih =>
    intro L hN h
    cases L with
    | nil => exact ⟨0, rfl⟩
    | cons x l =>
      have hx : x ∈ x :: l := List.mem_cons_self ..
      generalize x :: l = L at *
      have h1 := orb_nodup t h hx
      have hsplit : (L.filter (fun y => decide (y ∈ orb t n x))).length + (L.filter (fun y => !decide (y ∈ orb t n x))).length = L.length :=
        filter_two (fun y => decide (y ∈ orb t n x)) L
      have hperm : (L.filter (fun y => decide (y ∈ orb t n x))).Perm (orb t n x) := by
        refine (List.perm_ext_iff_of_nodup (h.nodup.filter _) h1).2 fun y => ?_
        rw [List.mem_filter]
        constructor
        · rintro ⟨_, hy⟩; exact of_decide_eq_true hy
        · intro hy
          refine ⟨?_, decide_eq_true hy⟩
          obtain ⟨i, _, rfl⟩ := List.mem_map.1 hy
          exact it_mem t h i x hx
      have hlen : (orb t n x).length = n := by unfold orb; simp
      rw [hperm.length_eq, hlen] at hsplit
      have h2 : Exact t n (L.filter (fun y => !decide (y ∈ orb t n x))) := by
        refine ⟨h.pos, fun y hy => ?_, fun y hy => h.whole y (List.mem_filter.1 hy).1, fun y hy => h.free y (List.mem_filter.1 hy).1, h.nodup.filter _⟩
        obtain ⟨ha, hb⟩ := List.mem_filter.1 hy
        refine List.mem_filter.2 ⟨h.inside y ha, ?_⟩
        have hb' : y ∉ orb t n x := by simpa using hb
        have : t y ∉ orb t n x := by
          intro hc
          obtain ⟨i, _, hi⟩ := List.mem_map.1 hc
          apply hb'
          have e : it t (n - 1) (t y) = y := by
            have := h.whole y ha
            rw [show n = (n - 1) + 1 by have := h.pos; omega] at this
            exact this
          rw [← e, ← hi, ← it_add]
          exact mem_orb t h hx _
        simpa using this
      have hn := h.pos
      have := ih _ (by omega) _ rfl h2
      obtain ⟨k, hk⟩ := this
      refine ⟨k + 1, ?_⟩
      rw [Nat.mul_add, ← hk, Nat.mul_one]; omega
end
section
variable {p : Nat} [NeZero p]
def nmul : Nat → Pt p → Pt p
  | 0, _ => .O
  | k + 1, P => (nmul k P).add P
theorem add_O (P : Pt p) : P.add .O = P := by cases P <;> rfl
theorem O_add (P : Pt p) : Pt.O.add P = P := by cases P <;> rfl
variable (G : Good p)
include G
theorem on_nmul : ∀ (k : Nat) {P : Pt p}, P.on → (nmul k P).on
  | 0, _, _ => trivial
  | k + 1, _, h => on_add G (on_nmul k h) h
theorem nmul_add (j : Nat) {P : Pt p} (h : P.on) : ∀ k, nmul (j + k) P = (nmul j P).add (nmul k P)
  | 0 => (add_O _).symm
  | k + 1 => by
    show (nmul (j + k) P).add P = (nmul j P).add ((nmul k P).add P)
    rw [nmul_add j h k, assoc G (on_nmul G j h) (on_nmul G k h) h]
theorem nmul_O : ∀ k, nmul k (.O : Pt p) = .O
  | 0 => rfl
  | k + 1 => by show (nmul k Pt.O).add .O = .O; rw [nmul_O k]; rfl
theorem nmul_mul (j : Nat) {P : Pt p} (h : P.on) : ∀ k, nmul (j * k) P = nmul k (nmul j P)
  | 0 => rfl
  | k + 1 => by
    show nmul (j * (k + 1)) P = (nmul k (nmul j P)).add (nmul j P)
    rw [Nat.mul_succ, nmul_add G _ h, nmul_mul j h k]
omit G in
def psum : List (Pt p) → Pt p
  | [] => .O
  | P :: l => P.add (psum l)
theorem on_psum : ∀ {l : List (Pt p)}, (∀ P ∈ l, P.on) → (psum l).on
  | [], _ => trivial
  | P :: l, h => on_add G (h P (List.mem_cons_self ..)) (on_psum fun Q hQ => h Q (List.mem_cons_of_mem _ hQ))
theorem psum_perm {l1 l2 : List (Pt p)} (h : l1.Perm l2) : (∀ P ∈ l1, P.on) → psum l1 = psum l2 := by
  induction h with
  | nil => intro _; rfl
  | cons P h ih => intro ho; show P.add _ = P.add _; rw [ih fun Q hQ => ho Q (List.mem_cons_of_mem _ hQ)]
  | swap P Q l =>
    intro ho
    have hP := ho P (by simp)
    have hQ := ho Q (by simp)
    have hl := on_psum G (l := l) fun R hR => ho R (by simp [hR])
    show Q.add (P.add (psum l)) = P.add (Q.add (psum l))
    rw [← assoc G hQ hP hl, ← assoc G hP hQ hl, add_comm' G hQ hP]
  | trans h1 h2 i1 i2 => intro ho; rw [i1 ho, i2 fun P hP => ho P (h1.mem_iff.2 hP)]
theorem psum_map {P : Pt p} (hP : P.on) : ∀ {l : List (Pt p)}, (∀ Q ∈ l, Q.on) → psum (l.map fun Q => Q.add P) = (psum l).add (nmul l.length P)
  | [], _ => rfl
  | Q :: l, h => by
    have hQ := h Q (List.mem_cons_self ..)
    have hl : ∀ R ∈ l, R.on := fun R hR => h R (List.mem_cons_of_mem _ hR)
    have a := on_psum G hl
    have b := on_nmul G l.length hP
    show (Q.add P).add (psum (l.map fun Q => Q.add P)) = (Q.add (psum l)).add ((nmul l.length P).add P)
    rw [psum_map hP hl, assoc G hQ hP (on_add G a b), assoc G hQ a (on_add G b hP), add_comm' G hP (on_add G a b), assoc G a b hP]
theorem all_zero {l : List (Pt p)} (ho : ∀ Q ∈ l, Q.on) (hall : ∀ Q : Pt p, Q.on → Q ∈ l) (hnd : l.Nodup) {P : Pt p} (hP : P.on) : nmul l.length P = .O := by
  have hperm : (l.map fun Q => Q.add P).Perm l := by
    refine map_perm l (fun Q => Q.add P) hnd (fun Q hQ => hall _ (on_add G (ho Q hQ) hP)) ?_
    intro A hA B hB e
    have hA' := ho A hA
    have hB' := ho B hB
    have e' : A.add P = B.add P := e
    rw [add_comm' G hA' hP, add_comm' G hB' hP] at e'
    rw [← cancel G hP hA', e', cancel G hP hB']
  have e := psum_perm G hperm (fun Q hQ => by obtain ⟨R, hR, rfl⟩ := List.mem_map.1 hQ; exact on_add G (ho R hR) hP)
  rw [psum_map G hP ho] at e
  have hs := on_psum G ho
  have := cancel G hs (on_nmul G l.length hP)
  rw [e, neg_add_self G hs] at this
  exact this.symm
end
section
variable {p : Nat} [NeZero p]
def nums (p : Nat) : List (Fin p) := List.finRange p
def col (x : Fin p) : List (Pt p) := ((List.finRange p).filter fun y => y * y == x * x * x + 7).map (Pt.A x)
def aff (p : Nat) [NeZero p] : List (Pt p) := (List.finRange p).flatMap col
def pts (p : Nat) [NeZero p] : List (Pt p) := .O :: aff p
theorem mem_aff {P : Pt p} : P ∈ aff p ↔ ∃ x y : Fin p, P = .A x y ∧ y * y = x * x * x + 7 := by
  unfold aff col
  simp only [List.mem_flatMap, List.mem_map, List.mem_filter, List.mem_finRange, true_and, beq_iff_eq]
  constructor
  · rintro ⟨x, y, h, rfl⟩; exact ⟨x, y, rfl, h⟩
  · rintro ⟨x, y, rfl, h⟩; exact ⟨x, y, h, rfl⟩
theorem on_pts : ∀ P ∈ pts p, P.on := by
  intro P hP
  rcases List.mem_cons.1 hP with rfl | h
  · trivial
  · obtain ⟨x, y, rfl, h2⟩ := mem_aff.1 h; exact h2
theorem all_pts : ∀ P : Pt p, P.on → P ∈ pts p
  | .O, _ => List.mem_cons_self ..
  | .A x y, h => List.mem_cons_of_mem _ (mem_aff.2 ⟨x, y, rfl, h⟩)
theorem nodup_col (x : Fin p) : (col x).Nodup := by
  unfold col List.Nodup
  rw [List.pairwise_map]
  refine ((List.nodup_finRange p).filter _).imp ?_
  intro a b hab e
  injection e with e1 e2
  exact hab e2
theorem nodup_aff : (aff p).Nodup := by
  unfold aff List.Nodup
  rw [List.pairwise_flatMap]
  refine ⟨fun x _ => nodup_col x, ?_⟩
  refine (List.nodup_finRange p).imp ?_
  intro a b hab P h1 Q h2 e
  subst e
  simp only [col, List.mem_map] at h1 h2
  obtain ⟨y, _, rfl⟩ := h1
  obtain ⟨z, _, e⟩ := h2
  injection e with e1 e2
  exact hab e1.symm
theorem nodup_pts : (pts p).Nodup := by
  refine List.nodup_cons.2 ⟨fun h => ?_, nodup_aff⟩
  obtain ⟨x, y, e, h2⟩ := mem_aff.1 h
  cases e
theorem few {l : List (Fin p)} (hn : l.Nodup) (h : ∀ a ∈ l, ∀ b ∈ l, a = b ∨ a = -b) : l.length ≤ 2 := by
  match l, hn, h with
  | [], _, _ => exact Nat.zero_le _
  | [_], _, _ => exact Nat.le_succ 1
  | [_, _], _, _ => exact Nat.le_refl _
  | a :: b :: c :: l, hn, h =>
    exfalso
    have h1 := h b (by simp) a (by simp)
    have h2 := h c (by simp) a (by simp)
    simp only [List.nodup_cons, List.mem_cons, not_or] at hn
    rcases h1 with h1 | h1
    · exact hn.1.1 h1.symm
    · rcases h2 with h2 | h2
      · exact hn.1.2.1 h2.symm
      · exact hn.2.1.1 (h1.trans h2.symm)
theorem col_le (h : Pr p) (x : Fin p) : (col x).length ≤ 2 := by
  unfold col
  rw [List.length_map]
  refine few ((List.nodup_finRange p).filter _) fun a ha b hb => ?_
  have e1 := (List.mem_filter.1 ha).2
  have e2 := (List.mem_filter.1 hb).2
  simp only [beq_iff_eq] at e1 e2
  have hz : (a - b) * (a + b) = 0 := by
    have e : a * a = b * b := e1.trans e2.symm
    clear e1 e2 ha hb
    grind
  rcases fmul_zero_of h _ _ hz with h1 | h1
  · left; clear e1 e2 ha hb hz; grind
  · right; clear e1 e2 ha hb hz; grind
theorem flat_le {α β : Type} (f : α → List β) (hf : ∀ a, (f a).length ≤ 2) : ∀ l : List α, (l.flatMap f).length ≤ 2 * l.length
  | [] => Nat.le_refl _
  | a :: l => by
    have h1 := flat_le f hf l
    have h2 := hf a
    rw [List.flatMap_cons, List.length_append, List.length_cons]
    omega
theorem pts_le (h : Pr p) : (pts p).length ≤ 2 * p + 1 := by
  have := flat_le col (col_le h) (List.finRange p)
  rw [List.length_finRange] at this
  show (aff p).length + 1 ≤ _
  unfold aff
  omega
theorem pts_odd (G : Good p) : (pts p).length % 2 = 1 := by
  have h : Exact Pt.neg 2 (aff p) := by
    refine ⟨by decide, ?_, ?_, ?_, nodup_aff⟩
    · intro P hP
      obtain ⟨x, y, rfl, h⟩ := mem_aff.1 hP
      refine mem_aff.2 ⟨x, -y, rfl, ?_⟩
      rw [← h]; clear h hP; grind
    · intro P _; exact neg_neg' P
    · intro P hP i h0 h2 e
      obtain rfl : i = 1 := by omega
      obtain ⟨x, y, rfl, h⟩ := mem_aff.1 hP
      have e : Pt.A x (-y) = Pt.A x y := e
      injection e with _ e2
      apply yy_ne G h
      clear h hP
      grind
  obtain ⟨k, hk⟩ := exact_dvd Pt.neg _ _ rfl h
  show ((aff p).length + 1) % 2 = 1
  omega
theorem it_add_pt (P : Pt p) (G : Good p) (hP : P.on) : ∀ (k : Nat) (Q : Pt p), Q.on → it (fun R => R.add P) k Q = Q.add (nmul k P)
  | 0, Q, _ => (add_O Q).symm
  | k + 1, Q, hQ => by
    show it (fun R => R.add P) k (Q.add P) = _
    have hk := on_nmul G k hP
    rw [it_add_pt P G hP k _ (on_add G hQ hP), assoc G hQ hP hk, add_comm' G hP hk]
    rfl
theorem nmul_gcd (G : Good p) {B : Pt p} (hB : B.on) (m k : Nat) : nmul m B = .O → nmul k B = .O → nmul (Nat.gcd m k) B = .O := by
  refine Nat.gcd.induction m k (P := fun m k => nmul m B = .O → nmul k B = .O → nmul (Nat.gcd m k) B = .O) ?_ ?_
  · intro k _ h; rw [Nat.gcd_zero_left]; exact h
  · intro m k _ ih hm hk
    rw [Nat.gcd_rec]
    refine ih ?_ hm
    have e : nmul k B = (nmul (m * (k / m)) B).add (nmul (k % m) B) := by rw [← nmul_add G _ hB, Nat.div_add_mod]
    rw [hk, nmul_mul G m hB, hm, nmul_O G] at e
    exact e.symm
theorem order (G : Good p) {n : Nat} (hn : Pr n) {B : Pt p} (hB : B.on) (h0 : B ≠ .O) (h : nmul n B = .O) (hlt : 2 * p + 1 < 3 * n) {P : Pt p} (hP : P.on) : nmul n P = .O := by
  have hx : Exact (fun R => R.add B) n (pts p) := by
    refine ⟨by have := hn.1; omega, fun Q hQ => all_pts _ (on_add G (on_pts Q hQ) hB), fun Q hQ => ?_, fun Q hQ i hi hin e => ?_, nodup_pts⟩
    · rw [it_add_pt B G hB n Q (on_pts Q hQ), h, add_O]
    · have hQ' := on_pts Q hQ
      rw [it_add_pt B G hB i Q hQ'] at e
      have hz : nmul i B = .O := by
        have c1 := cancel G hQ' (on_nmul G i hB)
        rw [e, neg_add_self G hQ'] at c1
        exact c1.symm
      have hg := nmul_gcd G hB i n hz h
      have hc : Nat.gcd i n = 1 := by
        rcases hn.2 (Nat.gcd i n) (Nat.gcd_dvd_right i n) with h1 | h1
        · exact h1
        · have := Nat.le_of_dvd hi (Nat.gcd_dvd_left i n); omega
      rw [hc] at hg
      apply h0
      rw [← hg]; exact (O_add B).symm
  obtain ⟨k, hk⟩ := exact_dvd _ _ _ rfl hx
  have hle := pts_le (p := p) G.prime
  have hodd := pts_odd G
  have hpos : 0 < (pts p).length := by show 0 < (aff p).length + 1; omega
  have hk1 : k = 1 := by
    rcases Nat.lt_or_ge k 3 with h3 | h3
    · match k, h3 with
      | 0, _ => rw [hk] at hpos; omega
      | 1, _ => rfl
      | 2, _ => rw [hk] at hodd; omega
    · have := Nat.mul_le_mul_left n h3
      omega
  rw [hk1, Nat.mul_one] at hk
  rw [← hk]
  exact all_zero G on_pts all_pts nodup_pts hP
end
section
variable {p : Nat} [NeZero p]
theorem fpow_three (x : Fin p) (k : Nat) : fpow (x * x * x) k = fpow x (3 * k) := by
  rw [fpow_mul]
  have : fpow x 3 = x * x * x := by
    show 1 * x * x * x = x * x * x
    grind
  rw [this]
theorem no_cube (h : Pr p) (h3 : p % 3 = 1) (h7 : (7 : Fin p) ≠ 0) (e : fpow (-7 : Fin p) ((p - 1) / 3) ≠ 1) : ∀ x : Fin p, x * x * x + 7 ≠ 0 := by
  intro x hx
  have e1 : x * x * x = -7 := by clear e h7; grind
  have hx0 : x ≠ 0 := by
    rintro rfl
    apply h7
    clear e e1 h7
    grind
  apply e
  rw [← e1, fpow_three, show 3 * ((p - 1) / 3) = p - 1 by omega]
  exact fermat h x hx0
end
end EM
end Go.Proofs.YtejbajgpiecjcaaGreat

/- Shifts up word by word, bytes, quotients bit by bit. No program here. -/
namespace Go.Proofs.YtejbajgpiecjcaaGreat
def slf (A nn i j : Nat) : Nat := if nn / 64 ≤ j ∧ j < i then limN (A * 2 ^ nn) j else 0
def by8 (a j : Nat) : Nat := a / 256 ^ (31 - j) % 256
theorem by8_lt (a j : Nat) : by8 a j < 256 := Nat.mod_lt _ (by decide)
theorem byte_lim (a i : Nat) : limN a (i / 8) / 2 ^ (8 * (i % 8)) % 256 = a / 256 ^ i % 256 := by
  unfold limN
  have e : a / 256 ^ i = a / 2 ^ (64 * (i / 8)) / 2 ^ (8 * (i % 8)) := by
    rw [Nat.div_div_eq_div_mul, ← Nat.pow_add, show (256 : Nat) = 2 ^ 8 from rfl, ← Nat.pow_mul]; congr 2; omega
  rw [e]
  generalize a / 2 ^ (64 * (i / 8)) = x
  have hk : i % 8 < 8 := Nat.mod_lt _ (by decide)
  generalize i % 8 = k at hk
  have h64 : (2 : Nat) ^ 64 = 2 ^ (8 * k) * (256 * 2 ^ (56 - 8 * k)) := by
    rw [show (256 : Nat) = 2 ^ 8 from rfl, ← Nat.pow_add, ← Nat.pow_add]; congr 1; omega
  rw [h64, Nat.mod_mul_right_div_self, Nat.mod_mul_right_mod]
def byf (a i j : Nat) : Nat := if 31 - j < i then by8 a j else 0
theorem byte_step {a i : Nat} {f : Nat → Nat} (hi : i < 32) (hf : ∀ j, j < 32 → f j = byf a i j) : ∀ j, j < 32 → upn f (31 - i) (limN a (i / 8) / 2 ^ (8 * (i % 8)) % 256) j = byf a (i + 1) j := by
  intro j hj
  unfold upn byf
  by_cases h : j = 31 - i
  · rw [if_pos h, if_pos (by omega), byte_lim]; unfold by8; rw [show 31 - j = i by omega]
  · rw [if_neg h, hf j hj]; unfold byf
    by_cases h2 : 31 - j < i
    · rw [if_pos h2, if_pos (by omega)]
    · rw [if_neg h2, if_neg (by omega)]
theorem byte_start {a : Nat} : ∀ j, j < 32 → (fun _ => 0) j = byf a 0 j := fun j _ => by unfold byf; rw [if_neg (by omega)]
theorem byte_fin {a : Nat} {f : Nat → Nat} (hf : ∀ j, j < 32 → f j = byf a 32 j) : ∀ j, j < 32 → f j = by8 a j := fun j hj => by rw [hf j hj]; unfold byf; rw [if_pos (by omega)]
theorem pr_by8 (a : Nat) : ∀ n, n ≤ 32 → pr (by8 a) 0 n = a / 256 ^ (32 - n) % 256 ^ n
  | 0, _ => by simp [pr, Nat.mod_one]
  | n + 1, h => by
    rw [pr, pr_by8 a n (by omega), Nat.zero_add]
    unfold by8
    have e : a / 256 ^ (32 - n) = a / 256 ^ (32 - (n + 1)) / 256 := by
      rw [Nat.div_div_eq_div_mul, ← Nat.pow_succ]; congr 2; omega
    rw [e, show 31 - n = 32 - (n + 1) by omega]
    generalize a / 256 ^ (32 - (n + 1)) = x
    rw [Nat.pow_succ, Nat.mul_comm (256 ^ n) 256, Nat.mod_mul]
    omega
theorem pr_by8_all {a : Nat} (h : a < 2 ^ 256) : pr (by8 a) 0 32 = a := by
  have e : (256 : Nat) ^ 32 = 2 ^ 256 := by decide
  rw [pr_by8 a 32 (by omega), Nat.sub_self, Nat.pow_zero, Nat.div_one, e, Nat.mod_eq_of_lt h]
end Go.Proofs.YtejbajgpiecjcaaGreat

/- Points as the program and the reference keep them: weighted points, fractions, the order. Plain law, no program here. -/
namespace Go.Proofs.YtejbajgpiecjcaaGreat
namespace EM
set_option linter.unusedSectionVars false
section
variable {p : Nat} [NeZero p]
def Jac (X Y Z : Fin p) (T : Pt p) : Prop := (Z = 0 ∧ T = .O) ∨ (Z ≠ 0 ∧ ∃ x y, T = .A x y ∧ y * y = x * x * x + 7 ∧ X = x * (Z * Z) ∧ Y = y * (Z * Z * Z))
def Frc (X Y Z : Fin p) (T : Pt p) : Prop := (Z = 0 ∧ T = .O) ∨ (Z ≠ 0 ∧ ∃ x y, T = .A x y ∧ y * y = x * x * x + 7 ∧ X = x * Z ∧ Y = y * Z)
theorem fmul_ne (h : Pr p) {a b : Fin p} (ha : a ≠ 0) (hb : b ≠ 0) : a * b ≠ 0 := fun h0 => (fmul_zero_of h _ _ h0).elim ha hb
theorem Jac.on {X Y Z : Fin p} {T : Pt p} (h : Jac X Y Z T) : T.on := by
  rcases h with ⟨_, rfl⟩ | ⟨_, x, y, rfl, h, _⟩
  · trivial
  · exact h
theorem Frc.on {X Y Z : Fin p} {T : Pt p} (h : Frc X Y Z T) : T.on := by
  rcases h with ⟨_, rfl⟩ | ⟨_, x, y, rfl, h, _⟩
  · trivial
  · exact h
variable (G : Good p)
include G
theorem jac_y_ne {X Y Z : Fin p} {T : Pt p} (h : Jac X Y Z T) (hz : Z ≠ 0) : Y ≠ 0 := by
  rcases h with ⟨h0, _⟩ | ⟨_, x, y, rfl, hc, hx, hy⟩
  · exact absurd h0 hz
  · rw [hy]
    exact fmul_ne G.prime (y_ne G hc) (fmul_ne G.prime (fmul_ne G.prime hz hz) hz)
theorem jac_zero {X Y Z : Fin p} {T : Pt p} (h : Jac X Y Z T) (hz : Z = 0 ∨ Y = 0) : T = .O := by
  by_cases h0 : Z = 0
  · rcases h with ⟨_, h⟩ | ⟨h1, _⟩
    · exact h
    · exact absurd h0 h1
  · exact absurd (hz.resolve_left h0) (jac_y_ne G h h0)
theorem dbl_slope {x y : Fin p} (h : y * y = x * x * x + 7) : ∃ t, t * (y + y) = 3 * (x * x) ∧ Pt.add (.A x y) (.A x y) = .A (t * t - x - x) (t * (x - (t * t - x - x)) - y) := by
  have hn : ¬ Opp x y x y := by
    rintro ⟨_, h1⟩
    exact yy_ne G h (by clear h; grind)
  have hs := isSlope_slope G h h hn
  refine ⟨slope x y x y, ?_, add_eq G h h hn hs⟩
  have := hs.2
  rw [this]; clear this hs h hn; grind
theorem sum_slope {x1 y1 x2 y2 : Fin p} (h1 : y1 * y1 = x1 * x1 * x1 + 7) (h2 : y2 * y2 = x2 * x2 * x2 + 7) (hx : x1 ≠ x2) : ∃ t, t * (x1 - x2) = y1 - y2 ∧ Pt.add (.A x1 y1) (.A x2 y2) = .A (t * t - x1 - x2) (t * (x1 - (t * t - x1 - x2)) - y1) := by
  have hn : ¬ Opp x1 y1 x2 y2 := fun h => hx h.1
  have hs := isSlope_slope G h1 h2 hn
  exact ⟨slope x1 y1 x2 y2, hs.1, add_eq G h1 h2 hn hs⟩
theorem on_dbl {x y : Fin p} (h : y * y = x * x * x + 7) {a b : Fin p} (e : Pt.add (.A x y) (.A x y) = .A a b) : b * b = a * a * a + 7 := by
  have := on_add G (P := .A x y) (Q := .A x y) h h
  rw [e] at this; exact this
theorem jac_dbl {X Y Z : Fin p} {T : Pt p} (h : Jac X Y Z T) (hz : ¬ (Z = 0 ∨ Y = 0)) {y2 s m x y z : Fin p} (e1 : y2 = Y * Y) (e2 : s = 4 * (X * y2)) (e3 : m = 3 * (X * X)) (e4 : x = m * m - 2 * s) (e5 : y = m * (s - x) - 8 * (y2 * y2)) (e6 : z = 2 * (Y * Z)) :
    Jac x y z (T.add T) := by
  have hz0 : Z ≠ 0 := fun h => hz (.inl h)
  have hy0 : Y ≠ 0 := fun h => hz (.inr h)
  rcases h with ⟨h0, _⟩ | ⟨_, u, v, rfl, hc, hX, hY⟩
  · exact absurd h0 hz0
  · obtain ⟨t, ht, hadd⟩ := dbl_slope G hc
    refine .inr ⟨?_, _, _, hadd, on_dbl G hc hadd, ?_, ?_⟩
    · rw [e6]; exact fmul_ne G.prime G.two (fmul_ne G.prime hy0 hz0)
    · have hm : m = t * z := by rw [e3, e6, hX, hY]; clear e1 e2 e3 e4 e5 e6 hadd hc; grind
      have hs : s = u * (z * z) := by rw [e2, e1, e6, hX, hY]; clear e1 e2 e3 e4 e5 e6 hadd hc ht hm; grind
      rw [e4, hm, hs]; clear e1 e2 e3 e4 e5 e6 hadd hc ht hm hs hX hY; grind
    · have hm : m = t * z := by rw [e3, e6, hX, hY]; clear e1 e2 e3 e4 e5 e6 hadd hc; grind
      have hs : s = u * (z * z) := by rw [e2, e1, e6, hX, hY]; clear e1 e2 e3 e4 e5 e6 hadd hc ht hm; grind
      have hx : x = (t * t - u - u) * (z * z) := by rw [e4, hm, hs]; clear e1 e2 e3 e4 e5 e6 hadd hc ht hm hs hX hY; grind
      have h8 : 8 * (y2 * y2) = v * (z * z * z) := by rw [e1, e6, hY]; clear e1 e2 e3 e4 e5 e6 hadd hc ht hm hs hX hY hx; grind
      rw [e5, h8, hx, hm, hs]; clear e1 e2 e3 e4 e5 e6 hadd hc ht hm hs hX hY hx h8; grind
theorem jac_h {X1 Y1 Z1 X2 Y2 Z2 : Fin p} {P Q : Pt p} (hP : Jac X1 Y1 Z1 P) (hQ : Jac X2 Y2 Z2 Q) (z1 : Z1 ≠ 0) (z2 : Z2 ≠ 0) {u1 u2 s1 s2 h r : Fin p}
    (e1 : u1 = X1 * (Z2 * Z2)) (e2 : u2 = X2 * (Z1 * Z1)) (e3 : s1 = Y1 * (Z2 * Z2 * Z2)) (e4 : s2 = Y2 * (Z1 * Z1 * Z1)) (e5 : h = u2 - u1) (e6 : r = s2 - s1) :
    (h = 0 → r = 0 → P.add Q = P.add P) ∧ (h = 0 → r ≠ 0 → P.add Q = .O) ∧ (∀ {h2 h3 v x y z : Fin p}, h ≠ 0 → h2 = h * h → h3 = h2 * h → v = u1 * h2 → x = r * r - h3 - 2 * v → y = r * (v - x) - s1 * h3 → z = h * (Z1 * Z2) → Jac x y z (P.add Q)) := by
  rcases hP with ⟨h0, _⟩ | ⟨_, x1, y1, rfl, hc1, hX1, hY1⟩
  · exact absurd h0 z1
  rcases hQ with ⟨h0, _⟩ | ⟨_, x2, y2, rfl, hc2, hX2, hY2⟩
  · exact absurd h0 z2
  have hZ : Z1 * Z2 ≠ 0 := fmul_ne G.prime z1 z2
  obtain ⟨Z, hZe⟩ : ∃ Z, Z1 * Z2 = Z := ⟨_, rfl⟩
  rw [hZe] at hZ ⊢
  have hu1 : u1 = x1 * (Z * Z) := by rw [e1, hX1, ← hZe]; clear hc1 hc2 hX1 hX2 hY1 hY2 e1 e2 e3 e4 e5 e6 hZe; grind
  have hu2 : u2 = x2 * (Z * Z) := by rw [e2, hX2, ← hZe]; clear hc1 hc2 hX1 hX2 hY1 hY2 e1 e2 e3 e4 e5 e6 hZe hu1; grind
  have hs1 : s1 = y1 * (Z * Z * Z) := by rw [e3, hY1, ← hZe]; clear hc1 hc2 hX1 hX2 hY1 hY2 e1 e2 e3 e4 e5 e6 hZe hu1 hu2; grind
  have hs2 : s2 = y2 * (Z * Z * Z) := by rw [e4, hY2, ← hZe]; clear hc1 hc2 hX1 hX2 hY1 hY2 e1 e2 e3 e4 e5 e6 hZe hu1 hu2 hs1; grind
  clear e1 e2 e3 e4 hX1 hX2 hY1 hY2 hZe
  have ZZ := fmul_ne G.prime hZ hZ
  have ZZZ := fmul_ne G.prime ZZ hZ
  have hx0 : h = 0 → x1 = x2 := fun hh => by
    refine fcancel G.prime ZZ ?_
    rw [hh, hu1, hu2] at e5
    clear hu1 hu2 hs1 hs2 hc1 hc2; grind
  have hr0 : r = 0 → y1 = y2 := fun hh => by
    refine fcancel G.prime ZZZ ?_
    rw [hh, hs1, hs2] at e6
    clear hu1 hu2 hs1 hs2 hc1 hc2; grind
  refine ⟨fun h0 h1 => ?_, fun h0 h1 => ?_, fun {h2 h3 v x y z} h0 f1 f2 f3 f4 f5 f6 => ?_⟩
  · rw [hx0 h0, hr0 h1]
  · have hy : y1 ≠ y2 := by
      rintro rfl
      apply h1
      rw [e6, hs1, hs2]; clear hu1 hu2 hs1 hs2 hc1 hc2; grind
    exact if_pos ⟨hx0 h0, .inl hy⟩
  · have hx : x1 ≠ x2 := by
      rintro rfl
      apply h0
      rw [e5, hu1, hu2]; clear hu1 hu2 hs1 hs2 hc1 hc2; grind
    obtain ⟨t, ht, hadd⟩ := sum_slope G hc1 hc2 hx
    have hon := on_add G (P := .A x1 y1) (Q := .A x2 y2) hc1 hc2
    rw [hadd] at hon ⊢
    have hr : r = t * z := by rw [e6, hs1, hs2, f6, e5, hu1, hu2]; clear hu1 hu2 hs1 hs2 hc1 hc2 e5 e6 f1 f2 f3 f4 f5 f6 hadd hon hx0 hr0; grind
    have hv : v = x1 * (z * z) := by rw [f3, f1, hu1, f6]; clear hu1 hu2 hs1 hs2 hc1 hc2 e5 e6 f1 f2 f3 f4 f5 f6 hadd hon hx0 hr0 hr ht; grind
    have hh3 : h3 = (x2 - x1) * (z * z) := by
      rw [f2, f1, f6]
      have : h = (x2 - x1) * (Z * Z) := by rw [e5, hu1, hu2]; clear hu1 hu2 hs1 hs2 hc1 hc2 e5 e6 f1 f2 f3 f4 f5 f6 hadd hon hx0 hr0 hr ht hv; grind
      clear hu1 hu2 hs1 hs2 hc1 hc2 e5 e6 f1 f2 f3 f4 f5 f6 hadd hon hx0 hr0 hr ht hv; grind
    have hsh : s1 * h3 = y1 * (z * z * z) := by
      rw [hs1, f2, f1, f6]; clear hu1 hu2 hs1 hs2 hc1 hc2 e5 e6 f1 f2 f3 f4 f5 f6 hadd hon hx0 hr0 hr ht hv hh3; grind
    have hxx : x = (t * t - x1 - x2) * (z * z) := by
      rw [f4, hr, hh3, hv]; clear hu1 hu2 hs1 hs2 hc1 hc2 e5 e6 f1 f2 f3 f4 f5 f6 hadd hon hx0 hr0 hr ht hv hh3 hsh; grind
    refine .inr ⟨by rw [f6]; exact fmul_ne G.prime h0 hZ, _, _, rfl, hon, hxx, ?_⟩
    rw [f5, hsh, hr, hv, hxx]; clear hu1 hu2 hs1 hs2 hc1 hc2 e5 e6 f1 f2 f3 f4 f5 f6 hadd hon hx0 hr0 hr ht hv hh3 hsh hxx; grind
theorem frc_dbl {X Y Z : Fin p} {T : Pt p} (h : Frc X Y Z T) {w s b g ys x y z : Fin p} (e1 : w = 3 * (X * X)) (e2 : s = Y * Z) (e3 : b = X * Y * s) (e4 : g = w * w - 8 * b) (e5 : ys = Y * s) (e6 : x = 2 * (g * s)) (e7 : y = w * (4 * b - g) - 8 * (ys * ys)) (e8 : z = 8 * (s * (s * s))) :
    Frc x y z (T.add T) := by
  rcases h with ⟨h0, rfl⟩ | ⟨hz, u, v, rfl, hc, hX, hY⟩
  · refine .inl ⟨?_, rfl⟩
    rw [e8, e2, h0]; clear e1 e2 e3 e4 e5 e6 e7 e8 h0; grind
  · obtain ⟨t, ht, hadd⟩ := dbl_slope G hc
    have hs : s = v * (Z * Z) := by rw [e2, hY]; clear e1 e2 e3 e4 e5 e6 e7 e8 hadd hc ht; grind
    have hs0 : s ≠ 0 := by rw [hs]; exact fmul_ne G.prime (y_ne G hc) (fmul_ne G.prime hz hz)
    have hw : w = 2 * (t * s) := by rw [e1, hX, hs]; clear e1 e2 e3 e4 e5 e6 e7 e8 hadd hc hs hs0; grind
    have hb : b = u * (s * s) := by rw [e3, hX, hY, hs]; clear e1 e2 e3 e4 e5 e6 e7 e8 hadd hc hs hs0 hw ht; grind
    have hg : g = 4 * (s * s) * (t * t - u - u) := by rw [e4, hw, hb]; clear e1 e2 e3 e4 e5 e6 e7 e8 hadd hc hs hs0 hw ht hb; grind
    have hys : ys * ys = v * (s * s * s) := by rw [e5, hY]; rw [hs]; clear e1 e2 e3 e4 e5 e6 e7 e8 hadd hc hs hs0 hw ht hb hg; grind
    have h2 := G.two
    have h8 : (8 : Fin p) ≠ 0 := by
      have := fmul_ne G.prime h2 (fmul_ne G.prime h2 h2)
      intro h0; apply this; clear e1 e2 e3 e4 e5 e6 e7 e8 hadd hc hs hs0 hw ht hb hg hys; grind
    refine .inr ⟨by rw [e8]; exact fmul_ne G.prime h8 (fmul_ne G.prime hs0 (fmul_ne G.prime hs0 hs0)), _, _, hadd, on_dbl G hc hadd, ?_, ?_⟩
    · rw [e6, e8, hg]; clear e1 e2 e3 e4 e5 e6 e7 e8 hadd hc hs hs0 hw ht hb hg hys h8 h2; grind
    · rw [e7, e8, hys, hg, hb, hw]; clear e1 e2 e3 e4 e5 e6 e7 e8 hadd hc hs hs0 hw ht hb hg hys h8 h2; grind
theorem frc_v {X1 Y1 Z1 X2 Y2 Z2 : Fin p} {P Q : Pt p} (hP : Frc X1 Y1 Z1 P) (hQ : Frc X2 Y2 Z2 Q) (z1 : Z1 ≠ 0) (z2 : Z2 ≠ 0) {px py u v zz : Fin p}
    (e1 : px = X1 * Z2) (e2 : py = Y1 * Z2) (e3 : u = Y2 * Z1 - py) (e4 : v = X2 * Z1 - px) (e5 : zz = Z1 * Z2) :
    (v = 0 → u = 0 → P.add Q = P.add P) ∧ (v = 0 → u ≠ 0 → P.add Q = .O) ∧ (∀ {v2 v3 r a x y z : Fin p}, v ≠ 0 → v2 = v * v → v3 = v2 * v → r = v2 * px → a = u * u * zz - v3 - (r + r) → x = v * a → y = u * (r - a) - v3 * py → z = v3 * zz → Frc x y z (P.add Q)) := by
  rcases hP with ⟨h0, _⟩ | ⟨_, x1, y1, rfl, hc1, hX1, hY1⟩
  · exact absurd h0 z1
  rcases hQ with ⟨h0, _⟩ | ⟨_, x2, y2, rfl, hc2, hX2, hY2⟩
  · exact absurd h0 z2
  have hZ : zz ≠ 0 := by rw [e5]; exact fmul_ne G.prime z1 z2
  have hpx : px = x1 * zz := by rw [e1, hX1, e5]; clear hc1 hc2 hX1 hX2 hY1 hY2 e1 e2 e3 e4 e5; grind
  have hpy : py = y1 * zz := by rw [e2, hY1, e5]; clear hc1 hc2 hX1 hX2 hY1 hY2 e1 e2 e3 e4 e5 hpx; grind
  have hv : v = (x2 - x1) * zz := by rw [e4, hpx, hX2, e5]; clear hc1 hc2 hX1 hX2 hY1 hY2 e1 e2 e3 e4 e5 hpx hpy; grind
  have hu : u = (y2 - y1) * zz := by rw [e3, hpy, hY2, e5]; clear hc1 hc2 hX1 hX2 hY1 hY2 e1 e2 e3 e4 e5 hpx hpy hv; grind
  clear e1 e2 e3 e4 e5 hX1 hX2 hY1 hY2
  have hx0 : v = 0 → x1 = x2 := fun hh => by
    refine fcancel G.prime hZ ?_
    rw [hh] at hv
    clear hu hc1 hc2; grind
  have hr0 : u = 0 → y1 = y2 := fun hh => by
    refine fcancel G.prime hZ ?_
    rw [hh] at hu
    clear hv hc1 hc2 hx0; grind
  refine ⟨fun h0 h1 => ?_, fun h0 h1 => ?_, fun {v2 v3 r a x y z} h0 f1 f2 f3 f4 f5 f6 f7 => ?_⟩
  · rw [hx0 h0, hr0 h1]
  · have hy : y1 ≠ y2 := by
      rintro rfl
      apply h1
      rw [hu]; clear hu hv hc1 hc2 hx0 hr0; grind
    exact if_pos ⟨hx0 h0, .inl hy⟩
  · have hx : x1 ≠ x2 := by
      rintro rfl
      apply h0
      rw [hv]; clear hu hv hc1 hc2 hx0 hr0; grind
    obtain ⟨t, ht, hadd⟩ := sum_slope G hc1 hc2 hx
    have hon := on_add G (P := .A x1 y1) (Q := .A x2 y2) hc1 hc2
    rw [hadd] at hon ⊢
    have hut : u = t * v := by rw [hu, hv]; clear hu hv hc1 hc2 hx0 hr0 f1 f2 f3 f4 f5 f6 f7 hadd hon hpx hpy; grind
    have ha : a = v * v * zz * (t * t - x1 - x2) := by
      have : v3 = v * v * ((x2 - x1) * zz) := by rw [f2, f1, ← hv]
      rw [f4, hut, this, f3, f1, hpx]; clear this hu hv hc1 hc2 hx0 hr0 f1 f2 f3 f4 f5 f6 f7 hadd hon hpx hpy hut ht; grind
    refine .inr ⟨by rw [f7, f2, f1]; exact fmul_ne G.prime (fmul_ne G.prime (fmul_ne G.prime h0 h0) h0) hZ, _, _, rfl, hon, ?_, ?_⟩
    · rw [f5, f7, ha, f2, f1]; clear hu hv hc1 hc2 hx0 hr0 f1 f2 f3 f4 f5 f6 f7 hadd hon hpx hpy hut ht ha; grind
    · rw [f6, f7, f3, ha, hut, f2, f1, hpx, hpy]; clear hu hv hc1 hc2 hx0 hr0 f1 f2 f3 f4 f5 f6 f7 hadd hon hpx hpy hut ht ha; grind
theorem jac_plain {X Y Z : Fin p} {T : Pt p} (h : Jac X Y Z T) (hz : Z ≠ 0) {i i2 : Fin p} (e1 : i = finv Z) (e2 : i2 = i * i) : T = .A (X * i2) (Y * (i2 * i)) := by
  rcases h with ⟨h0, _⟩ | ⟨_, x, y, rfl, hc, hX, hY⟩
  · exact absurd h0 hz
  have hi := finv_mul G.prime Z hz
  rw [← e1] at hi
  have a1 : X * i2 = x := by rw [hX, e2]; clear e1 e2 hX hY hc; grind
  have a2 : Y * (i2 * i) = y := by rw [hY, e2]; clear e1 e2 hX hY hc a1; grind
  rw [a1, a2]
theorem frc_plain {X Y Z : Fin p} {T : Pt p} (h : Frc X Y Z T) (hz : Z ≠ 0) {i : Fin p} (e1 : i = finv Z) : T = .A (X * i) (Y * i) := by
  rcases h with ⟨h0, _⟩ | ⟨_, x, y, rfl, hc, hX, hY⟩
  · exact absurd h0 hz
  have hi := finv_mul G.prime Z hz
  rw [← e1] at hi
  have a1 : X * i = x := by rw [hX]; clear e1 hX hY hc; grind
  have a2 : Y * i = y := by rw [hY]; clear e1 hX hY hc a1; grind
  rw [a1, a2]
omit G in
theorem jac_O {X Y Z : Fin p} {T : Pt p} (h : Jac X Y Z T) (hz : Z = 0) : T = .O := by
  rcases h with ⟨_, h⟩ | ⟨h1, _⟩
  · exact h
  · exact absurd hz h1
omit G in
theorem frc_O {X Y Z : Fin p} {T : Pt p} (h : Frc X Y Z T) (hz : Z = 0) : T = .O := by
  rcases h with ⟨_, h⟩ | ⟨h1, _⟩
  · exact h
  · exact absurd hz h1
end
end EM
theorem Pf_two : (2 : Fin Pf) ≠ 0 := by
  intro h
  have := congrArg Fin.val h
  revert this
  decide
theorem Pf_seven : (7 : Fin Pf) ≠ 0 := by
  intro h
  have := congrArg Fin.val h
  revert this
  decide
theorem Pf_cube : EM.fpow (-7 : Fin Pf) ((Pf - 1) / 3) ≠ 1 := by
  intro h
  have h1 := congrArg Fin.val h
  have e : (-7 : Fin Pf) = fe (Pf - 7) := by decide
  rw [e, EM.fpow_val, fe_val, ← Nat.pow_mod, ← EM.mp_eq Pf 256 _ _ (by decide)] at h1
  revert h1
  decide +kernel
theorem Pf_good : EM.Good Pf := ⟨EM.pr_field, Pf_two, EM.no_cube EM.pr_field (by decide) Pf_seven Pf_cube⟩
def px : EM.Pt Pf → Nat
  | .O => 0
  | .A x _ => x.val
def py : EM.Pt Pf → Nat
  | .O => 0
  | .A _ y => y.val
def pz : EM.Pt Pf → Bool
  | .O => true
  | .A _ _ => false
theorem px_ltP : ∀ T, px T < Pf
  | .O => Pf_pos
  | .A x _ => x.isLt
theorem py_ltP : ∀ T, py T < Pf
  | .O => Pf_pos
  | .A _ y => y.isLt
theorem px_lt (T : EM.Pt Pf) : px T < 2 ^ 256 := Nat.lt_trans (px_ltP T) Pf_lt
theorem py_lt (T : EM.Pt Pf) : py T < 2 ^ 256 := Nat.lt_trans (py_ltP T) Pf_lt
theorem fe_of_val (x : Fin Pf) : fe x.val = x := Fin.ext (Nat.mod_eq_of_lt x.isLt)
def rgt (x : Nat) : Nat := (x * x % Pf * x % Pf + 7) % Pf
theorem fe_rgt (x : Nat) : fe (rgt x) = fe x * fe x * fe x + 7 := by
  unfold rgt
  rw [fe_mod, fe_add, fe_mod, fe_mul, fe_mod, fe_mul]; rfl
def affB (x y : Nat) : Bool := decide (x < Pf) && (decide (y < Pf) && decide (y * y % Pf = rgt x))
def onB (x y : Nat) (z : Bool) : Bool := if z = true then decide (x = 0) && decide (y = 0) else affB x y
def ptOf (x y : Nat) (z : Bool) : EM.Pt Pf := if z = true then .O else if affB x y = true then .A (fe x) (fe y) else .O
theorem affB_iff {x y : Nat} : affB x y = true ↔ x < Pf ∧ y < Pf ∧ fe y * fe y = fe x * fe x * fe x + 7 := by
  unfold affB
  simp only [Bool.and_eq_true, decide_eq_true_eq]
  rw [← fe_rgt, ← fe_mul, fe_eq, show rgt x % Pf = rgt x from Nat.mod_mod _ _]
theorem pt_on (x y : Nat) (z : Bool) : (ptOf x y z).on := by
  unfold ptOf
  split
  · trivial
  · split
    · rename_i h
      exact (affB_iff.1 h).2.2
    · trivial
theorem pt_back {T : EM.Pt Pf} (h : T.on) : ptOf (px T) (py T) (pz T) = T := by
  cases T with
  | O => rfl
  | A x y =>
    have e : affB x.val y.val = true := affB_iff.2 ⟨x.isLt, y.isLt, by rw [fe_of_val, fe_of_val]; exact h⟩
    show (if affB x.val y.val = true then EM.Pt.A (fe x.val) (fe y.val) else .O) = _
    rw [if_pos e, fe_of_val, fe_of_val]
theorem on_yes {x y : Nat} {z : Bool} (h : onB x y z = true) : px (ptOf x y z) = x ∧ py (ptOf x y z) = y ∧ pz (ptOf x y z) = z := by
  unfold onB at h
  unfold ptOf
  cases z with
  | true =>
    simp only [if_true, Bool.and_eq_true, decide_eq_true_eq] at h ⊢
    exact ⟨h.1.symm, h.2.symm, rfl⟩
  | false =>
    simp only [Bool.false_eq_true, if_false] at h ⊢
    rw [if_pos h]
    have := affB_iff.1 h
    exact ⟨Nat.mod_eq_of_lt this.1, Nat.mod_eq_of_lt this.2.1, rfl⟩
theorem on_no {x y : Nat} {z : Bool} (h : ¬ onB x y z = true) : ptOf x y z = .O := by
  unfold onB at h
  unfold ptOf
  cases z with
  | true => rfl
  | false =>
    simp only [Bool.false_eq_true, if_false] at h ⊢
    rw [if_neg h]
theorem pz_O {T : EM.Pt Pf} (h : pz T = true) : T = .O := by
  cases T with
  | O => rfl
  | A _ _ => cases h
theorem px_A {x y : Nat} (h : x < Pf) : px (.A (fe x) (fe y)) = x := Nat.mod_eq_of_lt h
theorem py_A {x y : Nat} (h : y < Pf) : py (.A (fe x) (fe y)) = y := Nat.mod_eq_of_lt h
def JN (x y z : Nat) (T : EM.Pt Pf) : Prop := x < Pf ∧ y < Pf ∧ z < Pf ∧ EM.Jac (fe x) (fe y) (fe z) T
def FN (x y z : Nat) (T : EM.Pt Pf) : Prop := x < Pf ∧ y < Pf ∧ z < Pf ∧ EM.Frc (fe x) (fe y) (fe z) T
theorem fe0 {a : Nat} (h : a < Pf) : fe a = 0 ↔ a = 0 := ⟨fun e => fe_inj h Pf_pos e, fun e => by rw [e]; rfl⟩
theorem JN.on {x y z : Nat} {T : EM.Pt Pf} (h : JN x y z T) : T.on := h.2.2.2.on
theorem FN.on {x y z : Nat} {T : EM.Pt Pf} (h : FN x y z T) : T.on := h.2.2.2.on
abbrev Tri := Nat × Nat × Nat
def dblm (x : Nat) : Nat := 3 * (x * x % Pf) % Pf
def dbls (x y : Nat) : Nat := 4 * (x * (y * y % Pf) % Pf) % Pf
def dblx (x y : Nat) : Nat := fsub (dblm x * dblm x % Pf) (2 * dbls x y % Pf)
def dbly (x y : Nat) : Nat := fsub (dblm x * fsub (dbls x y) (dblx x y) % Pf) (8 * (y * y % Pf * (y * y % Pf) % Pf) % Pf)
def dblz (y z : Nat) : Nat := 2 * (y * z % Pf) % Pf
def dJ (x y z : Nat) : Tri := if z = 0 ∨ y = 0 then (1, 1, 0) else (dblx x y, dbly x y, dblz y z)
theorem one_lt : 1 < Pf := by decide
theorem jn_O (x y : Nat) (hx : x < Pf) (hy : y < Pf) : JN x y 0 .O := ⟨hx, hy, Pf_pos, .inl ⟨rfl, rfl⟩⟩
theorem fn_O : FN 0 0 0 .O := ⟨Pf_pos, Pf_pos, Pf_pos, .inl ⟨rfl, rfl⟩⟩
theorem fe_mm (a b : Nat) : fe (a * b % Pf) = fe a * fe b := by rw [fe_mod, fe_mul]
theorem fe_dblm (x : Nat) : fe (dblm x) = 3 * (fe x * fe x) := by
  unfold dblm; simp only [fe_sub, fe_mod, fe_mul, fe_add]; rfl
theorem fe_dbls (x y : Nat) : fe (dbls x y) = 4 * (fe x * (fe y * fe y)) := by
  unfold dbls; simp only [fe_sub, fe_mod, fe_mul, fe_add]; rfl
theorem fe_dblx (x y : Nat) : fe (dblx x y) = fe (dblm x) * fe (dblm x) - 2 * fe (dbls x y) := by
  unfold dblx; simp only [fe_sub, fe_mod, fe_mul, fe_add]; rfl
theorem fe_dbly (x y : Nat) : fe (dbly x y) = fe (dblm x) * (fe (dbls x y) - fe (dblx x y)) - 8 * (fe y * fe y * (fe y * fe y)) := by
  unfold dbly; simp only [fe_sub, fe_mod, fe_mul, fe_add]; rfl
theorem fe_dblz (y z : Nat) : fe (dblz y z) = 2 * (fe y * fe z) := by
  unfold dblz; simp only [fe_sub, fe_mod, fe_mul, fe_add]; rfl
theorem dJ_law {x y z : Nat} {T : EM.Pt Pf} (h : JN x y z T) : JN (dJ x y z).1 (dJ x y z).2.1 (dJ x y z).2.2 (T.add T) := by
  obtain ⟨hx, hy, hz, hj⟩ := h
  unfold dJ
  split
  · rename_i h0
    have : T = .O := EM.jac_zero Pf_good hj (h0.imp (fe0 hz).2 (fe0 hy).2)
    rw [this]
    exact jn_O 1 1 one_lt one_lt
  · rename_i h0
    exact ⟨fsub_ltP _ _, fsub_ltP _ _, fmod_lt _, EM.jac_dbl Pf_good hj (fun h => h0 (h.imp (fe0 hz).1 (fe0 hy).1)) rfl (fe_dbls x y) (fe_dblm x) (fe_dblx x y) (fe_dbly x y) (fe_dblz y z)⟩
def su (x1 z2 : Nat) : Nat := x1 * (z2 * z2 % Pf) % Pf
def ss (y1 z2 : Nat) : Nat := y1 * (z2 * z2 % Pf * z2 % Pf) % Pf
def sh (x1 z1 x2 z2 : Nat) : Nat := fsub (su x2 z1) (su x1 z2)
def sr (y1 z1 y2 z2 : Nat) : Nat := fsub (ss y2 z1) (ss y1 z2)
def sx (u h r : Nat) : Nat := fsub (fsub (r * r % Pf) (h * h % Pf * h % Pf)) (2 * (u * (h * h % Pf) % Pf) % Pf)
def sy (u s h r : Nat) : Nat := fsub (r * fsub (u * (h * h % Pf) % Pf) (sx u h r) % Pf) (s * (h * h % Pf * h % Pf) % Pf)
def sz (z1 z2 h : Nat) : Nat := h * (z1 * z2 % Pf) % Pf
def sJ (x1 y1 z1 x2 y2 z2 : Nat) : Tri :=
  if z1 = 0 then (x2, y2, z2) else if z2 = 0 then (x1, y1, z1) else
  if sh x1 z1 x2 z2 = 0 then (if sr y1 z1 y2 z2 = 0 then dJ x1 y1 z1 else (1, 1, 0)) else
  (sx (su x1 z2) (sh x1 z1 x2 z2) (sr y1 z1 y2 z2), sy (su x1 z2) (ss y1 z2) (sh x1 z1 x2 z2) (sr y1 z1 y2 z2), sz z1 z2 (sh x1 z1 x2 z2))
theorem fe_su (x z : Nat) : fe (su x z) = fe x * (fe z * fe z) := by
  unfold su; simp only [fe_sub, fe_mod, fe_mul, fe_add]
theorem fe_ss (x z : Nat) : fe (ss x z) = fe x * (fe z * fe z * fe z) := by
  unfold ss; simp only [fe_sub, fe_mod, fe_mul, fe_add]
theorem fe_sx (u h r : Nat) : fe (sx u h r) = fe r * fe r - fe h * fe h * fe h - 2 * (fe u * (fe h * fe h)) := by
  unfold sx; simp only [fe_sub, fe_mod, fe_mul, fe_add]; rfl
theorem fe_sy (u s h r : Nat) : fe (sy u s h r) = fe r * (fe u * (fe h * fe h) - fe (sx u h r)) - fe s * (fe h * fe h * fe h) := by
  unfold sy; simp only [fe_sub, fe_mod, fe_mul, fe_add]
theorem fe_sz (a b h : Nat) : fe (sz a b h) = fe h * (fe a * fe b) := by
  unfold sz; simp only [fe_sub, fe_mod, fe_mul, fe_add]
theorem sJ_law {x1 y1 z1 x2 y2 z2 : Nat} {P Q : EM.Pt Pf} (h1 : JN x1 y1 z1 P) (h2 : JN x2 y2 z2 Q) : JN (sJ x1 y1 z1 x2 y2 z2).1 (sJ x1 y1 z1 x2 y2 z2).2.1 (sJ x1 y1 z1 x2 y2 z2).2.2 (P.add Q) := by
  have h1' := h1
  obtain ⟨a1, a2, a3, j1⟩ := h1
  obtain ⟨b1, b2, b3, j2⟩ := h2
  unfold sJ
  split
  · rename_i h0
    rw [EM.jac_O j1 ((fe0 a3).2 h0), EM.O_add]
    exact ⟨b1, b2, b3, j2⟩
  · rename_i n1
    split
    · rename_i h0
      rw [EM.jac_O j2 ((fe0 b3).2 h0), EM.add_O]
      exact h1'
    · rename_i n2
      obtain ⟨k1, k2, k3⟩ := EM.jac_h Pf_good j1 j2 (fun h => n1 ((fe0 a3).1 h)) (fun h => n2 ((fe0 b3).1 h)) (fe_su x1 z2) (fe_su x2 z1) (fe_ss y1 z2) (fe_ss y2 z1) (fe_sub (su x2 z1) (su x1 z2)) (fe_sub (ss y2 z1) (ss y1 z2))
      split
      · rename_i hh
        have hh' : fe (fsub (su x2 z1) (su x1 z2)) = 0 := (fe0 (fsub_ltP _ _)).2 hh
        split
        · rename_i hr
          rw [k1 hh' ((fe0 (fsub_ltP _ _)).2 hr)]
          exact dJ_law h1'
        · rename_i hr
          rw [k2 hh' (fun h => hr ((fe0 (fsub_ltP _ _)).1 h))]
          exact jn_O 1 1 one_lt one_lt
      · rename_i hh
        have hh' : fe (fsub (su x2 z1) (su x1 z2)) ≠ 0 := fun h => hh ((fe0 (fsub_ltP _ _)).1 h)
        exact ⟨fsub_ltP _ _, fsub_ltP _ _, fmod_lt _, k3 hh' rfl rfl rfl (fe_sx _ _ _) (fe_sy _ _ _ _) (fe_sz _ _ _)⟩
def tw (x : Nat) : Nat := 3 * (x * x % Pf) % Pf
def ts (y z : Nat) : Nat := y * z % Pf
def tb (x y z : Nat) : Nat := x * y % Pf * ts y z % Pf
def th (x y z : Nat) : Nat := fsub (tw x * tw x % Pf) (8 * tb x y z % Pf)
def tys (y z : Nat) : Nat := y * ts y z % Pf
def twx (x y z : Nat) : Nat := 2 * (th x y z * ts y z % Pf) % Pf
def twy (x y z : Nat) : Nat := fsub (tw x * fsub (4 * tb x y z % Pf) (th x y z) % Pf) (8 * (tys y z * tys y z % Pf) % Pf)
def twz (y z : Nat) : Nat := 8 * (ts y z * (ts y z * ts y z % Pf) % Pf) % Pf
theorem fe_tw (x : Nat) : fe (tw x) = 3 * (fe x * fe x) := by
  unfold tw; simp only [fe_sub, fe_mod, fe_mul, fe_add]; rfl
theorem fe_ts (y z : Nat) : fe (ts y z) = fe y * fe z := by
  unfold ts; simp only [fe_sub, fe_mod, fe_mul, fe_add]
theorem fe_tb (x y z : Nat) : fe (tb x y z) = fe x * fe y * fe (ts y z) := by
  unfold tb; simp only [fe_sub, fe_mod, fe_mul, fe_add]
theorem fe_th (x y z : Nat) : fe (th x y z) = fe (tw x) * fe (tw x) - 8 * fe (tb x y z) := by
  unfold th; simp only [fe_sub, fe_mod, fe_mul, fe_add]; rfl
theorem fe_tys (y z : Nat) : fe (tys y z) = fe y * fe (ts y z) := by
  unfold tys; simp only [fe_sub, fe_mod, fe_mul, fe_add]
theorem fe_twx (x y z : Nat) : fe (twx x y z) = 2 * (fe (th x y z) * fe (ts y z)) := by
  unfold twx; simp only [fe_sub, fe_mod, fe_mul, fe_add]; rfl
theorem fe_twy (x y z : Nat) : fe (twy x y z) = fe (tw x) * (4 * fe (tb x y z) - fe (th x y z)) - 8 * (fe (tys y z) * fe (tys y z)) := by
  unfold twy; simp only [fe_sub, fe_mod, fe_mul, fe_add]; rfl
theorem fe_twz (y z : Nat) : fe (twz y z) = 8 * (fe (ts y z) * (fe (ts y z) * fe (ts y z))) := by
  unfold twz; simp only [fe_sub, fe_mod, fe_mul, fe_add]; rfl
theorem tw_law {x y z : Nat} {T : EM.Pt Pf} (h : FN x y z T) : FN (twx x y z) (twy x y z) (twz y z) (T.add T) := by
  obtain ⟨hx, hy, hz, hj⟩ := h
  exact ⟨fmod_lt _, fsub_ltP _ _, fmod_lt _, EM.frc_dbl Pf_good hj (fe_tw x) (fe_ts y z) (fe_tb x y z) (fe_th x y z) (fe_tys y z) (fe_twx x y z) (fe_twy x y z) (fe_twz y z)⟩
def pu (y1 z1 y2 z2 : Nat) : Nat := fsub (y2 * z1 % Pf) (y1 * z2 % Pf)
def pa (u v p zz : Nat) : Nat := fsub (fsub (u * u % Pf * zz % Pf) (v * v % Pf * v % Pf)) ((v * v % Pf * p % Pf + v * v % Pf * p % Pf) % Pf)
def pvx (u v p zz : Nat) : Nat := v * pa u v p zz % Pf
def pvy (u v p q zz : Nat) : Nat := fsub (u * fsub (v * v % Pf * p % Pf) (pa u v p zz) % Pf) (v * v % Pf * v % Pf * q % Pf)
def pvz (v zz : Nat) : Nat := v * v % Pf * v % Pf * zz % Pf
def pF (x1 y1 z1 x2 y2 z2 : Nat) : Tri :=
  if z1 = 0 then (x2, y2, z2) else if z2 = 0 then (x1, y1, z1) else
  if pu x1 z1 x2 z2 = 0 then (if pu y1 z1 y2 z2 = 0 then (twx x1 y1 z1, twy x1 y1 z1, twz y1 z1) else (0, 0, 0)) else
  (pvx (pu y1 z1 y2 z2) (pu x1 z1 x2 z2) (x1 * z2 % Pf) (z1 * z2 % Pf), pvy (pu y1 z1 y2 z2) (pu x1 z1 x2 z2) (x1 * z2 % Pf) (y1 * z2 % Pf) (z1 * z2 % Pf), pvz (pu x1 z1 x2 z2) (z1 * z2 % Pf))
theorem fe_pu (y1 z1 y2 z2 : Nat) : fe (pu y1 z1 y2 z2) = fe y2 * fe z1 - fe (y1 * z2 % Pf) := by
  unfold pu; simp only [fe_sub, fe_mod, fe_mul, fe_add]
theorem fe_pa (u v p zz : Nat) : fe (pa u v p zz) = fe u * fe u * fe zz - fe v * fe v * fe v - (fe v * fe v * fe p + fe v * fe v * fe p) := by
  unfold pa; simp only [fe_sub, fe_mod, fe_mul, fe_add]
theorem fe_pvy (u v p q zz : Nat) : fe (pvy u v p q zz) = fe u * (fe v * fe v * fe p - fe (pa u v p zz)) - fe v * fe v * fe v * fe q := by
  unfold pvy; simp only [fe_sub, fe_mod, fe_mul, fe_add]
theorem fe_pvz (v zz : Nat) : fe (pvz v zz) = fe v * fe v * fe v * fe zz := by
  unfold pvz; simp only [fe_sub, fe_mod, fe_mul, fe_add]
theorem pF_law {x1 y1 z1 x2 y2 z2 : Nat} {P Q : EM.Pt Pf} (h1 : FN x1 y1 z1 P) (h2 : FN x2 y2 z2 Q) : FN (pF x1 y1 z1 x2 y2 z2).1 (pF x1 y1 z1 x2 y2 z2).2.1 (pF x1 y1 z1 x2 y2 z2).2.2 (P.add Q) := by
  have h1' := h1
  obtain ⟨a1, a2, a3, j1⟩ := h1
  obtain ⟨b1, b2, b3, j2⟩ := h2
  unfold pF
  split
  · rename_i h0
    rw [EM.frc_O j1 ((fe0 a3).2 h0), EM.O_add]
    exact ⟨b1, b2, b3, j2⟩
  · rename_i n1
    split
    · rename_i h0
      rw [EM.frc_O j2 ((fe0 b3).2 h0), EM.add_O]
      exact h1'
    · rename_i n2
      obtain ⟨k1, k2, k3⟩ := EM.frc_v Pf_good j1 j2 (fun h => n1 ((fe0 a3).1 h)) (fun h => n2 ((fe0 b3).1 h)) (fe_mm x1 z2) (fe_mm y1 z2) (fe_pu y1 z1 y2 z2) (fe_pu x1 z1 x2 z2) (fe_mm z1 z2)
      split
      · rename_i hh
        have hh' : fe (pu x1 z1 x2 z2) = 0 := (fe0 (fsub_ltP _ _)).2 hh
        split
        · rename_i hr
          rw [k1 hh' ((fe0 (fsub_ltP _ _)).2 hr)]
          exact tw_law h1'
        · rename_i hr
          rw [k2 hh' (fun h => hr ((fe0 (fsub_ltP _ _)).1 h))]
          exact fn_O
      · rename_i hh
        have hh' : fe (pu x1 z1 x2 z2) ≠ 0 := fun h => hh ((fe0 (fsub_ltP _ _)).1 h)
        exact ⟨fmod_lt _, fsub_ltP _ _, fmod_lt _, k3 hh' rfl rfl rfl (fe_pa _ _ _ _) (fe_mm _ _) (fe_pvy _ _ _ _ _) (fe_pvz _ _)⟩
def wx (T : EM.Pt Pf) : Nat := if pz T = true then 1 else px T
def wy (T : EM.Pt Pf) : Nat := if pz T = true then 1 else py T
def wz (T : EM.Pt Pf) : Nat := if pz T = true then 0 else 1
theorem weigh_law {T : EM.Pt Pf} (h : T.on) : JN (wx T) (wy T) (wz T) T := by
  unfold wx wy wz
  cases T with
  | O => exact jn_O 1 1 one_lt one_lt
  | A x y =>
    refine ⟨x.isLt, y.isLt, one_lt, .inr ⟨?_, x, y, rfl, h, ?_, ?_⟩⟩
    · show fe 1 ≠ 0
      rw [fe_one]; exact EM.fone_ne EM.pr_field
    · show fe x.val = x * (fe 1 * fe 1)
      rw [fe_of_val, fe_one]; grind
    · show fe y.val = y * (fe 1 * fe 1 * fe 1)
      rw [fe_of_val, fe_one]; grind
def gz (T : EM.Pt Pf) : Nat := if pz T = true then 0 else 1
theorem frac_law {T : EM.Pt Pf} (h : T.on) : FN (px T) (py T) (gz T) T := by
  unfold gz
  cases T with
  | O => exact fn_O
  | A x y =>
    refine ⟨x.isLt, y.isLt, one_lt, .inr ⟨?_, x, y, rfl, h, ?_, ?_⟩⟩
    · show fe 1 ≠ 0
      rw [fe_one]; exact EM.fone_ne EM.pr_field
    · show fe x.val = x * fe 1
      rw [fe_of_val, fe_one]; grind
    · show fe y.val = y * fe 1
      rw [fe_of_val, fe_one]; grind
theorem fe_pinv (a : Nat) : fe (pinv Pf a) = EM.finv (fe a) := by
  unfold pinv EM.finv
  rw [fe_mod, fe_pow]
theorem plain_law {x y z i i2 i3 a b : Nat} {T : EM.Pt Pf} (h : JN x y z T) (hz : ¬ z = 0) (hi : pinv Pf z = i) (h2 : i * i % Pf = i2) (h3 : i2 * i % Pf = i3) (ha : x * i2 % Pf = a) (hb : y * i3 % Pf = b) : px T = a ∧ py T = b ∧ pz T = false := by
  obtain ⟨a1, a2, a3, j⟩ := h
  have e := EM.jac_plain Pf_good j (fun h => hz ((fe0 a3).1 h)) (i := fe i) (i2 := fe i2) (by rw [← hi, fe_pinv]) (by rw [← h2, fe_mm])
  rw [e]
  refine ⟨?_, ?_, rfl⟩
  · show (fe x * fe i2).val = a
    rw [← fe_mm, ha]; exact Nat.mod_eq_of_lt (ha ▸ fmod_lt _)
  · show (fe y * (fe i2 * fe i)).val = b
    rw [← fe_mm i2 i, h3, ← fe_mm, hb]; exact Nat.mod_eq_of_lt (hb ▸ fmod_lt _)
theorem fplain_law {x y z i a b : Nat} {T : EM.Pt Pf} (h : FN x y z T) (hz : ¬ z = 0) (hi : pinv Pf z = i) (ha : x * i % Pf = a) (hb : y * i % Pf = b) : px T = a ∧ py T = b ∧ pz T = false := by
  obtain ⟨a1, a2, a3, j⟩ := h
  have e := EM.frc_plain Pf_good j (fun h => hz ((fe0 a3).1 h)) (i := fe i) (by rw [← hi, fe_pinv])
  rw [e]
  refine ⟨?_, ?_, rfl⟩
  · show (fe x * fe i).val = a
    rw [← fe_mm, ha]; exact Nat.mod_eq_of_lt (ha ▸ fmod_lt _)
  · show (fe y * fe i).val = b
    rw [← fe_mm, hb]; exact Nat.mod_eq_of_lt (hb ▸ fmod_lt _)
theorem jn_zero {x y z : Nat} {T : EM.Pt Pf} (h : JN x y z T) (hz : z = 0) : T = .O := EM.jac_O h.2.2.2 ((fe0 h.2.2.1).2 hz)
theorem fn_zero {x y z : Nat} {T : EM.Pt Pf} (h : FN x y z T) (hz : z = 0) : T = .O := EM.frc_O h.2.2.2 ((fe0 h.2.2.1).2 hz)
theorem nmul_bit {P : EM.Pt Pf} (hP : P.on) {a k b : Nat} (hk : 1 ≤ k) (hb : a / 2 ^ (k - 1) % 2 = b) : EM.nmul (a / 2 ^ (k - 1)) P = ((EM.nmul (a / 2 ^ k) P).add (EM.nmul (a / 2 ^ k) P)).add (EM.nmul b P) := by
  obtain ⟨i, rfl⟩ : ∃ i, k = i + 1 := ⟨k - 1, by omega⟩
  rw [Nat.add_sub_cancel] at *
  have e : a / 2 ^ i = a / 2 ^ (i + 1) + a / 2 ^ (i + 1) + b := by rw [← hb, Nat.pow_succ, ← Nat.div_div_eq_div_mul]; omega
  rw [e, EM.nmul_add Pf_good _ hP, EM.nmul_add Pf_good _ hP]
theorem swap4 {A B C D : EM.Pt Pf} (a : A.on) (b : B.on) (c : C.on) (d : D.on) : (A.add B).add (C.add D) = (A.add C).add (B.add D) := by
  have G := Pf_good
  rw [EM.assoc G a b (EM.on_add G c d), ← EM.assoc G b c d, EM.add_comm' G b c, EM.assoc G c b d, ← EM.assoc G a c (EM.on_add G b d)]
theorem both_bit {P Q : EM.Pt Pf} (hP : P.on) (hQ : Q.on) {a c k b d : Nat} (hk : 1 ≤ k) (hb : a / 2 ^ (k - 1) % 2 = b) (hd : c / 2 ^ (k - 1) % 2 = d) {T : EM.Pt Pf} (hT : (EM.nmul (a / 2 ^ k) P).add (EM.nmul (c / 2 ^ k) Q) = T) :
    (EM.nmul (a / 2 ^ (k - 1)) P).add (EM.nmul (c / 2 ^ (k - 1)) Q) = (T.add T).add ((EM.nmul b P).add (EM.nmul d Q)) := by
  have G := Pf_good
  have n1 := fun k => EM.on_nmul G k hP
  have n2 := fun k => EM.on_nmul G k hQ
  rw [nmul_bit hP hk hb, nmul_bit hQ hk hd, ← hT, swap4 (EM.on_add G (n1 _) (n1 _)) (n1 _) (EM.on_add G (n2 _) (n2 _)) (n2 _), swap4 (n1 _) (n2 _) (n1 _) (n2 _)]
theorem nmul_one' {P : EM.Pt Pf} : EM.nmul 1 P = P := EM.O_add P
theorem nmul_zero' {P : EM.Pt Pf} : EM.nmul 0 P = .O := rfl
theorem tri3 {X Y Z a b c : Nat} (h : ((a, b, c) : Tri) = (X, Y, Z)) : a = X ∧ b = Y ∧ c = Z := by
  simp only [Prod.mk.injEq] at h; exact h
theorem dJ_yes {x y z : Nat} (h : z = 0 ∨ y = 0) : dJ x y z = (1, 1, 0) := if_pos h
theorem dJ_no {x y z : Nat} (h1 : ¬ z = 0) (h2 : ¬ y = 0) : dJ x y z = (dblx x y, dbly x y, dblz y z) := if_neg (fun h => h.elim h1 h2)
theorem dJ_lt (x y z : Nat) : ∃ a b c, dJ x y z = (a, b, c) ∧ a < 2 ^ 256 ∧ b < 2 ^ 256 ∧ c < 2 ^ 256 := by
  by_cases h : z = 0 ∨ y = 0
  · exact ⟨_, _, _, dJ_yes h, by decide, by decide, by decide⟩
  · exact ⟨_, _, _, if_neg h, fsub_lt _ _, fsub_lt _ _, modP_lt _⟩
section
variable {x1 y1 z1 x2 y2 z2 : Nat}
theorem sJ_1 (h : z1 = 0) : sJ x1 y1 z1 x2 y2 z2 = (x2, y2, z2) := if_pos h
theorem sJ_2 (n : ¬ z1 = 0) (h : z2 = 0) : sJ x1 y1 z1 x2 y2 z2 = (x1, y1, z1) := by unfold sJ; rw [if_neg n, if_pos h]
theorem sJ_3 (n : ¬ z1 = 0) (m : ¬ z2 = 0) (h : sh x1 z1 x2 z2 = 0) (r : sr y1 z1 y2 z2 = 0) : sJ x1 y1 z1 x2 y2 z2 = dJ x1 y1 z1 := by unfold sJ; rw [if_neg n, if_neg m, if_pos h, if_pos r]
theorem sJ_4 (n : ¬ z1 = 0) (m : ¬ z2 = 0) (h : sh x1 z1 x2 z2 = 0) (r : ¬ sr y1 z1 y2 z2 = 0) : sJ x1 y1 z1 x2 y2 z2 = (1, 1, 0) := by unfold sJ; rw [if_neg n, if_neg m, if_pos h, if_neg r]
theorem sJ_5 (n : ¬ z1 = 0) (m : ¬ z2 = 0) (h : ¬ sh x1 z1 x2 z2 = 0) : sJ x1 y1 z1 x2 y2 z2 = (sx (su x1 z2) (sh x1 z1 x2 z2) (sr y1 z1 y2 z2), sy (su x1 z2) (ss y1 z2) (sh x1 z1 x2 z2) (sr y1 z1 y2 z2), sz z1 z2 (sh x1 z1 x2 z2)) := by unfold sJ; rw [if_neg n, if_neg m, if_neg h]
theorem sJ_lt (x1 y1 z1 x2 y2 z2 : Nat) (a1 : x1 < 2 ^ 256) (a2 : y1 < 2 ^ 256) (a3 : z1 < 2 ^ 256) (b1 : x2 < 2 ^ 256) (b2 : y2 < 2 ^ 256) (b3 : z2 < 2 ^ 256) : ∃ a b c, sJ x1 y1 z1 x2 y2 z2 = (a, b, c) ∧ a < 2 ^ 256 ∧ b < 2 ^ 256 ∧ c < 2 ^ 256 := by
  by_cases n : z1 = 0
  · exact ⟨_, _, _, sJ_1 n, b1, b2, b3⟩
  by_cases m : z2 = 0
  · exact ⟨_, _, _, sJ_2 n m, a1, a2, a3⟩
  by_cases h : sh x1 z1 x2 z2 = 0
  · by_cases r : sr y1 z1 y2 z2 = 0
    · rw [sJ_3 n m h r]; exact dJ_lt _ _ _
    · exact ⟨_, _, _, sJ_4 n m h r, by decide, by decide, by decide⟩
  · exact ⟨_, _, _, sJ_5 n m h, fsub_lt _ _, fsub_lt _ _, modP_lt _⟩
def tF (x y z : Nat) : Tri := (twx x y z, twy x y z, twz y z)
theorem tF_lt (x y z : Nat) : ∃ a b c, tF x y z = (a, b, c) ∧ a < 2 ^ 256 ∧ b < 2 ^ 256 ∧ c < 2 ^ 256 := ⟨_, _, _, rfl, modP_lt _, fsub_lt _ _, modP_lt _⟩
theorem pF_1 (h : z1 = 0) : pF x1 y1 z1 x2 y2 z2 = (x2, y2, z2) := if_pos h
theorem pF_2 (n : ¬ z1 = 0) (h : z2 = 0) : pF x1 y1 z1 x2 y2 z2 = (x1, y1, z1) := by unfold pF; rw [if_neg n, if_pos h]
theorem pF_3 (n : ¬ z1 = 0) (m : ¬ z2 = 0) (h : pu x1 z1 x2 z2 = 0) (r : pu y1 z1 y2 z2 = 0) : pF x1 y1 z1 x2 y2 z2 = tF x1 y1 z1 := by unfold pF; rw [if_neg n, if_neg m, if_pos h, if_pos r]; rfl
theorem pF_4 (n : ¬ z1 = 0) (m : ¬ z2 = 0) (h : pu x1 z1 x2 z2 = 0) (r : ¬ pu y1 z1 y2 z2 = 0) : pF x1 y1 z1 x2 y2 z2 = (0, 0, 0) := by unfold pF; rw [if_neg n, if_neg m, if_pos h, if_neg r]
theorem pF_5 (n : ¬ z1 = 0) (m : ¬ z2 = 0) (h : ¬ pu x1 z1 x2 z2 = 0) : pF x1 y1 z1 x2 y2 z2 = (pvx (pu y1 z1 y2 z2) (pu x1 z1 x2 z2) (x1 * z2 % Pf) (z1 * z2 % Pf), pvy (pu y1 z1 y2 z2) (pu x1 z1 x2 z2) (x1 * z2 % Pf) (y1 * z2 % Pf) (z1 * z2 % Pf), pvz (pu x1 z1 x2 z2) (z1 * z2 % Pf)) := by
  unfold pF; rw [if_neg n, if_neg m, if_neg h]
theorem pF_lt (x1 y1 z1 x2 y2 z2 : Nat) (a1 : x1 < 2 ^ 256) (a2 : y1 < 2 ^ 256) (a3 : z1 < 2 ^ 256) (b1 : x2 < 2 ^ 256) (b2 : y2 < 2 ^ 256) (b3 : z2 < 2 ^ 256) : ∃ a b c, pF x1 y1 z1 x2 y2 z2 = (a, b, c) ∧ a < 2 ^ 256 ∧ b < 2 ^ 256 ∧ c < 2 ^ 256 := by
  by_cases n : z1 = 0
  · exact ⟨_, _, _, pF_1 n, b1, b2, b3⟩
  by_cases m : z2 = 0
  · exact ⟨_, _, _, pF_2 n m, a1, a2, a3⟩
  by_cases h : pu x1 z1 x2 z2 = 0
  · by_cases r : pu y1 z1 y2 z2 = 0
    · rw [pF_3 n m h r]; exact tF_lt _ _ _
    · exact ⟨_, _, _, pF_4 n m h r, by decide, by decide, by decide⟩
  · exact ⟨_, _, _, pF_5 n m h, modP_lt _, fsub_lt _ _, modP_lt _⟩
theorem dJ_jn {x y z X Y Z : Nat} {T : EM.Pt Pf} (h : JN x y z T) (e : dJ x y z = (X, Y, Z)) : JN X Y Z (T.add T) := by
  have := dJ_law h; rw [e] at this; exact this
theorem sJ_jn {X Y Z : Nat} {P Q : EM.Pt Pf} (h1 : JN x1 y1 z1 P) (h2 : JN x2 y2 z2 Q) (e : sJ x1 y1 z1 x2 y2 z2 = (X, Y, Z)) : JN X Y Z (P.add Q) := by
  have := sJ_law h1 h2; rw [e] at this; exact this
theorem tF_fn {x y z X Y Z : Nat} {T : EM.Pt Pf} (h : FN x y z T) (e : tF x y z = (X, Y, Z)) : FN X Y Z (T.add T) := by
  have := tw_law h
  obtain ⟨rfl, rfl, rfl⟩ := tri3 e
  exact this
theorem pF_fn {X Y Z : Nat} {P Q : EM.Pt Pf} (h1 : FN x1 y1 z1 P) (h2 : FN x2 y2 z2 Q) (e : pF x1 y1 z1 x2 y2 z2 = (X, Y, Z)) : FN X Y Z (P.add Q) := by
  have := pF_law h1 h2; rw [e] at this; exact this
end
theorem weigh_jn {T : EM.Pt Pf} {u v s : Nat} (h : T.on) (hu : wx T = u) (hv : wy T = v) (hs : wz T = s) : JN u v s T := by
  rw [← hu, ← hv, ← hs]; exact weigh_law h
theorem wx_lt (T : EM.Pt Pf) : wx T < 2 ^ 256 := by unfold wx; split; decide; exact px_lt T
theorem wy_lt (T : EM.Pt Pf) : wy T < 2 ^ 256 := by unfold wy; split; decide; exact py_lt T
theorem wz_lt (T : EM.Pt Pf) : wz T < 2 ^ 256 := by unfold wz; split <;> decide
theorem jn_start {P Q : EM.Pt Pf} {a b k : Nat} (ha : a < 2 ^ k) (hb : b < 2 ^ k) : JN 1 1 0 ((EM.nmul (a / 2 ^ k) P).add (EM.nmul (b / 2 ^ k) Q)) := by
  rw [Nat.div_eq_of_lt ha, Nat.div_eq_of_lt hb]; exact jn_O 1 1 one_lt one_lt
theorem fn_start {P : EM.Pt Pf} {a k : Nat} (ha : a < 2 ^ k) : FN 0 0 0 (EM.nmul (a / 2 ^ k) P) := by
  rw [Nat.div_eq_of_lt ha]; exact fn_O
section
variable {P Q : EM.Pt Pf} {a c k X Y Z : Nat} {T : EM.Pt Pf}
theorem bothTT (hP : P.on) (hQ : Q.on) (hk : 1 ≤ k) (hb : a / 2 ^ (k - 1) % 2 = 1) (hd : c / 2 ^ (k - 1) % 2 = 1) (h : JN X Y Z ((((EM.nmul (a / 2 ^ k) P).add (EM.nmul (c / 2 ^ k) Q)).add ((EM.nmul (a / 2 ^ k) P).add (EM.nmul (c / 2 ^ k) Q))).add (P.add Q))) : JN X Y Z ((EM.nmul (a / 2 ^ (k - 1)) P).add (EM.nmul (c / 2 ^ (k - 1)) Q)) := by
  rw [both_bit hP hQ hk hb hd rfl, nmul_one', nmul_one']; exact h
theorem bothTF (hP : P.on) (hQ : Q.on) (hk : 1 ≤ k) (hb : a / 2 ^ (k - 1) % 2 = 1) (hd : ¬ c / 2 ^ (k - 1) % 2 = 1) (h : JN X Y Z ((((EM.nmul (a / 2 ^ k) P).add (EM.nmul (c / 2 ^ k) Q)).add ((EM.nmul (a / 2 ^ k) P).add (EM.nmul (c / 2 ^ k) Q))).add P)) : JN X Y Z ((EM.nmul (a / 2 ^ (k - 1)) P).add (EM.nmul (c / 2 ^ (k - 1)) Q)) := by
  rw [both_bit hP hQ hk hb (show c / 2 ^ (k - 1) % 2 = 0 by omega) rfl, nmul_one', nmul_zero', EM.add_O]; exact h
theorem bothFT (hP : P.on) (hQ : Q.on) (hk : 1 ≤ k) (hb : ¬ a / 2 ^ (k - 1) % 2 = 1) (hd : c / 2 ^ (k - 1) % 2 = 1) (h : JN X Y Z ((((EM.nmul (a / 2 ^ k) P).add (EM.nmul (c / 2 ^ k) Q)).add ((EM.nmul (a / 2 ^ k) P).add (EM.nmul (c / 2 ^ k) Q))).add Q)) : JN X Y Z ((EM.nmul (a / 2 ^ (k - 1)) P).add (EM.nmul (c / 2 ^ (k - 1)) Q)) := by
  rw [both_bit hP hQ hk (show a / 2 ^ (k - 1) % 2 = 0 by omega) hd rfl, nmul_one', nmul_zero', EM.O_add]; exact h
theorem bothFF (hP : P.on) (hQ : Q.on) (hk : 1 ≤ k) (hb : ¬ a / 2 ^ (k - 1) % 2 = 1) (hd : ¬ c / 2 ^ (k - 1) % 2 = 1) (h : JN X Y Z (((EM.nmul (a / 2 ^ k) P).add (EM.nmul (c / 2 ^ k) Q)).add ((EM.nmul (a / 2 ^ k) P).add (EM.nmul (c / 2 ^ k) Q)))) : JN X Y Z ((EM.nmul (a / 2 ^ (k - 1)) P).add (EM.nmul (c / 2 ^ (k - 1)) Q)) := by
  rw [both_bit hP hQ hk (show a / 2 ^ (k - 1) % 2 = 0 by omega) (show c / 2 ^ (k - 1) % 2 = 0 by omega) rfl, nmul_zero', nmul_zero', EM.O_add, EM.add_O]; exact h
theorem oneT (hP : P.on) (hk : 1 ≤ k) (hb : a / 2 ^ (k - 1) % 2 = 1) (h : FN X Y Z (((EM.nmul (a / 2 ^ k) P).add (EM.nmul (a / 2 ^ k) P)).add P)) : FN X Y Z (EM.nmul (a / 2 ^ (k - 1)) P) := by
  rw [nmul_bit hP hk hb, nmul_one']; exact h
theorem oneF (hP : P.on) (hk : 1 ≤ k) (hb : ¬ a / 2 ^ (k - 1) % 2 = 1) (h : FN X Y Z ((EM.nmul (a / 2 ^ k) P).add (EM.nmul (a / 2 ^ k) P))) : FN X Y Z (EM.nmul (a / 2 ^ (k - 1)) P) := by
  rw [nmul_bit hP hk (show a / 2 ^ (k - 1) % 2 = 0 by omega), nmul_zero', EM.add_O]; exact h
end
/- the reference's sum by slopes -/
section
variable {P Q : EM.Pt Pf}
end
def liftP (a : Nat) : EM.Pt Pf := if a < Pf ∧ frB (rgt a) = true then .A (fe a) (fe (frV (rgt a))) else .O
theorem lift_on (a : Nat) : (liftP a).on := by
  unfold liftP
  split
  · rename_i h
    have := frV_mul h.2
    show fe _ * fe _ = _
    rw [← fe_mul, ← fe_rgt]
    exact fe_eq.2 (by rw [this])
  · trivial
theorem liftP_yes {a : Nat} (h1 : a < Pf) (h2 : frB (rgt a) = true) : px (liftP a) = a ∧ py (liftP a) = frV (rgt a) ∧ pz (liftP a) = false := by
  unfold liftP
  rw [if_pos ⟨h1, h2⟩]
  exact ⟨px_A h1, py_A (frV_ltP _), rfl⟩
theorem liftP_no {a : Nat} (h : ¬ a < Pf ∨ ¬ frB (rgt a) = true) : liftP a = .O := if_neg fun hh => h.elim (fun k => k hh.1) (fun k => k hh.2)
def evB (T : EM.Pt Pf) : Bool := !pz T && decide (py T % 2 = 0)
def Gp : EM.Pt Pf := .A (fe 55066263022277343669578718895168534326250603453777594175500187360389116729240) (fe 32670510020758816978083085130507043184471273380659243275938904335757337482424)
theorem Gp_lift : liftP 55066263022277343669578718895168534326250603453777594175500187360389116729240 = Gp := by
  have hr : rgt 55066263022277343669578718895168534326250603453777594175500187360389116729240 = 32748224938747404814623910738487752935528512903530129802856995983256684603122 := by decide +kernel
  have h : frt 32748224938747404814623910738487752935528512903530129802856995983256684603122 = 32670510020758816978083085130507043184471273380659243275938904335757337482424 := frt_val (by decide +kernel)
  have hb : frB (rgt 55066263022277343669578718895168534326250603453777594175500187360389116729240) = true := by
    rw [hr]; unfold frB; rw [h]; decide +kernel
  have hv : frV (rgt 55066263022277343669578718895168534326250603453777594175500187360389116729240) = 32670510020758816978083085130507043184471273380659243275938904335757337482424 := by
    rw [hr]; unfold frV; rw [h]; decide +kernel
  unfold liftP
  rw [if_pos ⟨by decide, hb⟩, hv]
  rfl
theorem Gp_on : Gp.on := by
  have h : ∀ a, liftP a = Gp → Gp.on := fun a h => h ▸ lift_on a
  exact h _ Gp_lift
section
variable {P Q : EM.Pt Pf}
theorem O_on : (EM.Pt.O : EM.Pt Pf).on := trivial
theorem mkMul (k : Nat) (h : P.on) : ∃ z, EM.nmul k P = z ∧ z.on := ⟨_, rfl, EM.on_nmul Pf_good k h⟩
theorem mkBoth (k l : Nat) (h : P.on) (j : Q.on) : ∃ z, EM.Pt.add (EM.nmul k P) (EM.nmul l Q) = z ∧ z.on := ⟨_, rfl, EM.on_add Pf_good (EM.on_nmul Pf_good k h) (EM.on_nmul Pf_good l j)⟩
theorem mkLift (a : Nat) : ∃ z, liftP a = z ∧ z.on := ⟨_, rfl, lift_on a⟩
end
end Go.Proofs.YtejbajgpiecjcaaGreat

/- The order of the base: so many times each point is nothing. Plain law, no program here. -/
namespace Go.Proofs.YtejbajgpiecjcaaGreat
def forceN {α : Type} (n : Nat) (f : Nat → α) : α := match n with
  | 0 => f 0
  | m + 1 => f (m + 1)
def stepJ (b : Bool) (t : Tri) : Tri :=
  forceN t.1 fun x => forceN t.2.1 fun y => forceN t.2.2 fun z =>
    match dJ x y z with
    | (X, Y, Z) => forceN X fun X => forceN Y fun Y => forceN Z fun Z => bif b then sJ X Y Z 55066263022277343669578718895168534326250603453777594175500187360389116729240 32670510020758816978083085130507043184471273380659243275938904335757337482424 1 else (X, Y, Z)
def bitsJ (k : Nat) : Nat → Tri → Tri
  | 0, t => t
  | i + 1, t => bitsJ k i (stepJ (Nat.beq (k / 2 ^ i % 2) 1) t)
theorem frac_one {T : EM.Pt Pf} (h : T.on) (hz : pz T = false) : FN (px T) (py T) 1 T := by
  have := frac_law h
  unfold gz at this
  rw [if_neg (by rw [hz]; decide)] at this
  exact this
theorem frac_zero {T : EM.Pt Pf} (hz : pz T = true) : FN 0 0 0 T := by rw [pz_O hz]; exact fn_O
end Go.Proofs.YtejbajgpiecjcaaGreat

/- Byte strings and rows that lie beside a state's blocks: what operations do to them. -/
namespace Go.Proofs.YtejbajgpiecjcaaGreat
open Go.RowKit
def rowAt (S : List (Bool × Fz)) (k : Nat) : Option (Value × Nat × List Value) :=
  match S[k]? with
  | some (true, .cel v n cs) => some (v, n, cs)
  | some (true, .own v _ _ n xs) => some (v, n, xs)
  | _ => none
def vidx (v : Value) (i : Nat) : Value :=
  match v with
  | .slice (some a) _ _ => .pointer (some (a.add i))
  | _ => .pointer none
def vsl (v : Value) (z i h : Nat) : Value :=
  match v with
  | .slice a _ c => .slice (if c = i then a else a.map (·.add (i * z))) (h - i) (c - i)
  | v => v
theorem own_cel {w : World} {base : Nat} {E : TypeId} {size n : Nat} {v : Value} {xs : List Value} {Z : Nat → Prop} (h : w.ownsRow base E size v n xs) (hZ : ∀ g, v.ownBlock = some g → Z g) : CelV w Z v n xs := by
  rcases h.2 with ⟨rfl, rfl⟩ | ⟨g, cap, cur, rfl, hb, hh, hn, hc, hs, hx⟩
  · have : xs = [] := by have := h.1; simpa using this
    subst this
    exact ⟨none, 0, rfl, Nat.le_refl _, Nat.zero_le _, fun _ => rfl, fun j u hu => by simp at hu⟩
  · refine ⟨some ⟨g, 0, none⟩, cap, rfl, hn, hc, (fun h => by cases h), fun j u hu => ⟨g, 0, rfl, hZ g rfl, ?_⟩⟩
    rw [← hx, List.getElem?_take] at hu
    split at hu
    · rw [Nat.zero_add, cell_of_row w g j cur E _ hh]
      simpa using hu
    · cases hu
theorem CelV.any {w : World} {Z Z' : Nat → Prop} {v : Value} {n : Nat} {cs : List Value} (h : CelV w Z v n cs) (hz : ∀ g, Z g → Z' g) : CelV w Z' v n cs := h.mono fun g hg _ => ⟨hz g hg, rfl⟩
section
variable {P : Program} {Q : Exit → Act → World → Prop} {K : Act → World → Prop} {a : Act} {w : World} {o : Oper} {n : Nat} {w0 : Bs} {fs : List Sl} {bs : List Bl}
def Zall (w0 : Bs) (bs : List Bl) (g : Nat) : Prop :=
  (w0.Z g ∨ w0.B g) ∧ (∀ (j : Nat) (b : Bl), bs[j]? = some b → b.1 = true → b.2.1 ≠ g) ∧ ∀ (j : Nat) (e : Bool × Fz), w0.S[j]? = some e → e.1 = true → ¬ e.2.owns g
theorem St.row (hs : St n w0 fs bs a w) {k N : Nat} {v : Value} {cs : List Value} (h : rowAt w0.S k = some (v, N, cs)) : CelV w (fun _ => True) v N cs := by
  unfold rowAt at h
  split at h
  · rename_i v' n' cs' hk
    obtain ⟨rfl, rfl, rfl⟩ : v' = v ∧ n' = N ∧ cs' = cs := by simpa using h
    exact CelV.any (hs.fz k _ hk rfl) fun _ _ => trivial
  · rename_i v' E sz n' xs hk
    obtain ⟨rfl, rfl, rfl⟩ : v' = v ∧ n' = N ∧ xs = cs := by simpa using h
    exact own_cel (hs.fz k _ hk rfl).1 fun _ _ => trivial
  · cases h
theorem St.all (hs : St n w0 fs bs a w) {k : Nat} {e : Fz} (h : w0.S[k]? = some (true, e)) (ho : e.ownless = true) : e.ok w (Zall w0 bs) w0.B := by
  have h1 := hs.fz k _ h rfl
  have h2 : e.ok w (Zall w0 bs) w0.B := Fz.ok_mono (fun _ _ h => h) (fun g hg _ => ⟨⟨hg.1, hg.2.1, fun j e' hj hf => by
    by_cases hjk : j = k
    · subst hjk
      rw [h] at hj
      obtain rfl := Option.some.inj hj
      exact Fz.ownless_no ho g
    · exact hg.2.2 j e' hjk hj hf⟩, rfl⟩) h1
  cases e with
  | cel v N cs => exact h2
  | bys vs ls => exact h2
  | own v E size N xs => cases ho
  | bysO G vs ls => cases ho
  | wrs G vs ns => cases ho
theorem op_idxC (hs : St n w0 fs bs a w) (m : Option Nat) (k : Nat) {T E : TypeId} {x y : Operand} {v : Value} {z N : Nat} {cs : List Value} {κ : IntKind} {j : Nat} {d : Nat} (ho : o.op = .indexAddr T x y) (hd : o.dst = some d) (hx : ev fs x = some v) (hy : ev fs y = some (.int κ (j : Int)))
    (hk : rowAt w0.S k = some (v, N, cs)) (hu : P.underlying T = some (.slice E)) (hz : ∀ w, (sizeOf E).run P w = .ok z w) (hj : j < N) {off : Nat} (hoff : j * z = off) (hok : okf m fs d n = true)
    (h : ∀ a', St n w0 (putf m fs d (vidx v off)) bs a' w → K a' w) : o.wp P a w K Q := by
  obtain ⟨ad, c, rfl, hN, _, hn, _⟩ := hs.row hk
  subst hoff
  cases ad with
  | none => have := hn rfl; omega
  | some ad =>
    refine op_val hs m hd hok ?_ h
    unfold execOp
    rw [ho]
    have h1 : (0 : Int) ≤ (j : Int) ∧ (j : Int) < (N : Int) := ⟨by omega, by omega⟩
    simp [hs.ev hx, hs.ev hy, Instr.indexAt, asIntOf, Sem.run_bind, run_underlying hu, Result.andThen, hz, h1, hj, vidx]
theorem op_loadC (hs : St n w0 fs bs a w) (m : Option Nat) (k : Nat) {t : TypeId} {x : Operand} {v : Value} {i N : Nat} {cs : List Value} {ag : Bool} {z : Nat} {u : Value} {d : Nat} (ho : o.op = .load t x) (hd : o.dst = some d)
    (hx : ev fs x = some (vidx v i)) (hk : rowAt w0.S k = some (v, N, cs)) (hu : ∀ w, (isAgg t).run P w = .ok ag w) (hz : ∀ w, (sizeOf t).run P w = .ok z w) (hz0 : 0 < z) (hl : ldv ag z cs i = some u) (hok : okf m fs d n = true)
    (h : ∀ a', St n w0 (putf m fs d u) bs a' w → K a' w) : o.wp P a w K Q := by
  obtain ⟨ad, c, rfl, hN, _, hn, hc⟩ := hs.row hk
  have hlt : i < cs.length := by
    cases ag with
    | false =>
      simp only [ldv, cond_false] at hl
      exact (List.getElem?_eq_some_iff.1 hl).1
    | true =>
      simp only [ldv, cond_true] at hl
      cases hb : Nat.ble (i + z) cs.length with
      | true => have := Nat.le_of_ble_eq_true hb; omega
      | false => rw [hb] at hl; simp at hl
  obtain ⟨g, off, rfl, _, _⟩ := hc i cs[i] (by simp [hlt])
  have hc' : ∀ (j : Nat) (u : Value), cs[j]? = some u → w.cell? ⟨g, off + j, none⟩ = some u := fun j u hu => by
    obtain ⟨g', off', e, _, h3⟩ := hc j u hu
    obtain ⟨rfl, rfl⟩ : g = g' ∧ off = off' := by simpa using e
    exact h3
  refine op_val hs m hd hok ?_ h
  unfold execOp
  rw [ho]
  have hp : a.eval x = .pointer (some ⟨g, off + i, none⟩) := by rw [hs.ev hx]; simp [vidx, Addr.add_mid]
  have hrun : (loadVar t ⟨g, off + i, none⟩).run P w = .ok u w := by
    unfold loadVar
    rw [Sem.run_bind, hu]
    simp only [Result.andThen_ok]
    cases ag with
    | false =>
      simp only [ldv, cond_false] at hl
      simp only [Bool.false_eq_true, if_false]
      simp [hc' i u hl]
    | true =>
      simp only [ldv, cond_true] at hl
      have hle : i + z ≤ cs.length := by
        cases hb : Nat.ble (i + z) cs.length with
        | true => exact Nat.le_of_ble_eq_true hb
        | false => rw [hb] at hl; simp at hl
      rw [show Nat.ble (i + z) cs.length = true from Nat.ble_eq_true_of_le hle] at hl
      simp only [cond_true, Option.some.injEq] at hl
      subst hl
      simp only [if_true, Sem.run_bind, hz, Result.andThen_ok]
      have hlen : ((cs.drop i).take z).length = z := by simp; omega
      have := run_loadCells_list (P := P) w ⟨g, off + i, none⟩ ((cs.drop i).take z) (fun j v hv => by
        rw [Addr.add_mid, Nat.add_assoc]
        rw [List.getElem?_take] at hv
        split at hv
        · rw [List.getElem?_drop] at hv; exact hc' _ _ hv
        · cases hv)
      rw [hlen] at this
      simp [this]
  simp only [hp, Instr.loadAt, Instr.sureAddr, Sem.run_bind, Sem.run_pure, Result.andThen_ok, hrun]
def setS (S : List (Bool × Fz)) : Nat → List Fz → List (Bool × Fz)
  | _, [] => S
  | k, e :: l => setS (S.set k (true, e)) (k + 1) l
def putS (m : Option Nat) (S : List (Bool × Fz)) (l : List Fz) : List (Bool × Fz) :=
  match m with
  | none => S ++ l.map (true, ·)
  | some k => setS S k l
def freeS (S : List (Bool × Fz)) : Nat → Nat → Bool
  | _, 0 => true
  | k, j + 1 => (match S[k]? with | some (false, _) => true | _ => false) && freeS S (k + 1) j
def okS (m : Option Nat) (S : List (Bool × Fz)) (j : Nat) : Bool :=
  match m with
  | none => true
  | some k => freeS S k j
def OkL (w : World) (Z : Nat → Prop) (B : Nat → Prop) (L : List Fz) : Prop :=
  ∀ (i : Nat) (e : Fz), L[i]? = some e → e.ok w (fun g => (Z g ∨ B g) ∧ ∀ (j : Nat) (e' : Fz), j ≠ i → L[j]? = some e' → ¬ e'.owns g) B
def Ret {ρ : Type} (w0 : World) (Z : Nat → Prop) (v : ρ → Value) (E : ρ → List Fz) (e : Ending) (w' : World) : Prop := ∃ r, e = .returned (v r) ∧ Below w0.heap.size w0 w' ∧ OkL w' Z (Bn w0.heap.size noX) (E r)
abbrev Bs.withS (b : Bs) (S : List (Bool × Fz)) : Bs := ⟨b.w, b.F, S, b.Z, b.X⟩
theorem setS_get : ∀ (l : List Fz) (S : List (Bool × Fz)) (k i : Nat), k + l.length ≤ S.length → (setS S k l)[i]? = if k ≤ i ∧ i < k + l.length then (l[i - k]?).map (true, ·) else S[i]?
  | [], S, k, i, _ => by rw [setS, if_neg (by simp <;> omega)]
  | e :: l, S, k, i, h => by
    simp only [List.length_cons] at h
    rw [setS, setS_get l _ (k + 1) i (by simp; omega)]
    by_cases h1 : k + 1 ≤ i ∧ i < k + 1 + l.length
    · rw [if_pos h1, if_pos (by simp; omega), show i - k = (i - (k + 1)) + 1 by omega, List.getElem?_cons_succ]
    · rw [if_neg h1]
      by_cases h2 : i = k
      · subst h2
        rw [if_pos (by simp), Nat.sub_self, List.getElem?_set]
        simp; omega
      · rw [if_neg (by simp; omega), List.getElem?_set, if_neg (fun h => h2 h.symm)]
theorem freeS_get (S : List (Bool × Fz)) : ∀ (j k : Nat), freeS S k j = true → k + j ≤ S.length ∨ j = 0
  | 0, _, _ => .inr rfl
  | j + 1, k, h => by
    simp only [freeS, Bool.and_eq_true] at h
    have hk : k < S.length := by
      cases hS : S[k]? with
      | none => rw [hS] at h; simp at h
      | some e => exact (List.getElem?_eq_some_iff.1 hS).1
    rcases freeS_get S j (k + 1) h.2 with h1 | h1 <;> left <;> omega
theorem putS_get {m : Option Nat} {S : List (Bool × Fz)} {l : List Fz} (h : okS m S l.length = true) : ∃ k, ∀ (i : Nat) (e : Bool × Fz), (putS m S l)[i]? = some e → (k ≤ i ∧ e.1 = true ∧ l[i - k]? = some e.2) ∨ (S[i]? = some e ∧ (e.1 = true → i < k ∨ k + l.length ≤ i)) := by
  cases m with
  | none =>
    refine ⟨S.length, fun i e he => ?_⟩
    rw [putS, List.getElem?_append] at he
    split at he
    · rename_i hlt; exact .inr ⟨he, fun _ => .inl hlt⟩
    · rename_i hge
      left
      rw [List.getElem?_map] at he
      obtain ⟨x, hx, rfl⟩ := Option.map_eq_some_iff.1 he
      exact ⟨by omega, rfl, hx⟩
  | some k =>
    refine ⟨k, fun i e he => ?_⟩
    have hf : freeS S k l.length = true := h
    rcases freeS_get S _ _ hf with hle | h0
    · rw [putS, setS_get l S k i hle] at he
      split at he
      · rename_i hh
        left
        obtain ⟨x, hx, rfl⟩ := Option.map_eq_some_iff.1 he
        exact ⟨hh.1, rfl, hx⟩
      · rename_i hh
        exact .inr ⟨he, fun _ => by omega⟩
    · have : l = [] := List.length_eq_zero_iff.1 h0
      subst this
      exact .inr ⟨he, fun _ => by simp; omega⟩
theorem St.addS (hs : St n w0 fs bs a w) {m : Option Nat} {L : List Fz} (hok : okS m w0.S L.length = true) {w' : World} (hb : Below w.heap.size w w') (hL : OkL w' (Zall w0 bs) (Bn w.heap.size noX) L) : St n (w0.withS (putS m w0.S L)) fs bs a w' := by
  have h0 := hs.grow hb
  obtain ⟨k, key⟩ := putS_get hok
  have hsz := hs.below.size
  have up : ∀ g, Bn w.heap.size noX g → w.heap.size ≤ g := fun g h => h.elim id False.elim
  have upB : ∀ g, Bn w.heap.size noX g → w0.B g := fun g h => .inl (Nat.le_trans hsz (up g h))
  refine ⟨h0.size, h0.defers, h0.slots, h0.blks, h0.apart, h0.below, h0.frz, fun i e h h1 => ?_⟩
  have ownL : ∀ (j : Nat) (e' : Fz) (g : Nat), L[j]? = some e' → e'.owns g → w.heap.size ≤ g := fun j e' g hj ho => up g (Fz.ok_lt (hL j e' hj) ho).2.2
  rcases key i e h with ⟨hki, _, hLi⟩ | ⟨hS, hno⟩
  · refine Fz.ok_mono (fun g _ h => upB g h) (fun g hg hlt => ⟨⟨?_, fun j b hj hb1 => ?_, fun j e' hji hj he' => ?_⟩, rfl⟩) (hL _ _ hLi)
    · rcases hg.1 with hg1 | hg1
      · exact hg1.1
      · exact .inr (upB g hg1)
    · rcases hg.1 with hg1 | hg1
      · exact hg1.2.1 j b hj hb1
      · have := hs.lt hj hb1
        have := up g hg1
        omega
    · rcases key j e' hj with ⟨hkj, _, hLj⟩ | ⟨hSj, _⟩
      · exact hg.2 (j - k) e'.2 (by omega) hLj
      · rcases hg.1 with hg1 | hg1
        · exact hg1.2.2 j e' hSj he'
        · intro ho
          have := (Fz.ok_lt (hs.fz j e' hSj he') ho).1
          have := up g hg1
          omega
  · refine Fz.ok_mono (fun _ _ h => h) (fun g hg hlt => ⟨⟨hg.1, hg.2.1, fun j e' hji hj he' => ?_⟩, hb.block g hlt⟩) (hs.fz i e hS h1)
    rcases key j e' hj with ⟨_, _, hLj⟩ | ⟨hSj, _⟩
    · intro ho
      have := ownL _ _ _ hLj ho
      omega
    · exact hg.2.2 j e' hji hSj he'
theorem op_callS {F : FuncId} {ρ : Type} (hs : St n w0 fs bs a w) (m ms : Option Nat) {f : Operand} {xs : Array Operand} {ts : Array TypeId} {vs : List Value} {v : ρ → Value} {E : ρ → List Fz} {j : Nat} {d : Nat} (ho : o.op = .call ⟨.value f, xs, ts⟩) (hd : o.dst = some d)
    (hf : ev fs f = some (.func (.func F) #[] #[])) (hx : evs fs xs.toList = some vs) (hcl : ∀ w, (callFunc F vs.toArray).run P w = .ok (.enter F vs.toArray) w)
    (hc : St n w0 fs bs a w → Calls P F vs.toArray w (Ret w (Zall w0 bs) v E)) (hE : ∀ r, (E r).length = j) (hokS : okS ms w0.S j = true) (hok : okf m fs d n = true)
    (h : ∀ r a' w', St n (w0.withS (putS ms w0.S (E r))) (putf m fs d (v r)) bs a' w' → K a' w') : o.wp P a w K Q := by
  have hm : xs.map a.eval = vs.toArray := by
    have := hs.evs hx
    rw [← this, ← Array.toList_map]
  unfold Oper.wp execOp
  rw [ho]
  simp only [resolve, hs.ev hf, hm, Deferred.ofValue, Sem.run_bind, Sem.run_pure, Result.andThen_ok, invoke, Array.empty_append, Array.append_empty, hcl, Oper.upon_enter, hd]
  refine (hc hs).mono ?_
  rintro e w' ⟨r, rfl, hb, hL⟩
  exact h _ _ _ ((hs.addS (by rw [hE]; exact hokS) hb hL).put hok _)
theorem St.pushS (hs : St n w0 fs bs a w) (m : Option Nat) {L : List Fz} (hok : okS m w0.S L.length = true) (hL : OkL w (Zall w0 bs) (Bn w.heap.size noX) L) : St n (w0.withS (putS m w0.S L)) fs bs a w := hs.addS hok (Below.refl _ _) hL
theorem okl1 {w : World} {Z : Nat → Prop} {B : Nat → Prop} {e : Fz} (h : e.ok w Z B) : OkL w Z B [e] := by
  intro i e' he
  cases i with
  | zero =>
    obtain rfl : e = e' := by simpa using he
    exact Fz.ok_mono (fun _ _ h => h) (fun g hg _ => ⟨⟨.inl hg, fun j e' hj he' => by
      cases j with
      | zero => exact absurd rfl hj
      | succ j => simp at he'⟩, rfl⟩) h
  | succ i => simp at he
theorem okl0 {w : World} {Z : Nat → Prop} {B : Nat → Prop} : OkL w Z B [] := fun i e he => by simp at he
theorem celv_part {w : World} {Z : Nat → Prop} {v : Value} {N : Nat} {cs : List Value} (z i h : Nat) (hv : CelV w Z v N cs) (hi : i ≤ h) (hh : h ≤ N) : CelV w Z (vsl v z i h) (h - i) ((cs.drop (i * z)).take ((h - i) * z)) := by
  obtain ⟨ad, c, rfl, hN, hc, hn, hcs⟩ := hv
  refine ⟨if c = i then ad else ad.map (·.add (i * z)), c - i, rfl, by omega, by omega, ?_, fun j u hu => ?_⟩
  · intro h0
    split at h0
    · have := hn h0; omega
    · cases ad with
      | none => have := hn rfl; omega
      | some _ => cases h0
  · rw [List.getElem?_take] at hu
    split at hu
    · rename_i hj
      rw [List.getElem?_drop] at hu
      obtain ⟨g, off, rfl, hg, hcell⟩ := hcs _ u hu
      have hne : ¬ c = i := by
        intro hci
        have : h - i = 0 := by omega
        rw [this, Nat.zero_mul] at hj
        omega
      refine ⟨g, off + i * z, ?_, hg, ?_⟩
      · rw [if_neg hne]; simp [Addr.add_mid]
      · rw [Nat.add_assoc]; exact hcell
    · cases hu
theorem run_sliceC {T E : TypeId} {ad : Option Addr} {N c z i h : Nat} {lo hi : Option Value} (hu : P.underlying T = some (.slice E)) (hz : ∀ w, (sizeOf E).run P w = .ok z w) (hlo : lo = none ∧ i = 0 ∨ ∃ κ, lo = some (.int κ (i : Int))) (hhi : hi = none ∧ h = N ∨ ∃ κ, hi = some (.int κ (h : Int)))
    (h1 : i ≤ h) (h2 : h ≤ N) (h3 : N ≤ c) (w : World) : (Instr.sliceAt T (.slice ad N c) lo hi none).run P w = .ok (vsl (.slice ad N c) z i h) w := by
  have e1 : (0 : Int) ≤ (h : Int) ∧ (h : Int) ≤ (c : Int) := ⟨by omega, by omega⟩
  have e2 : (0 : Int) ≤ (i : Int) ∧ (i : Int) ≤ (h : Int) := ⟨by omega, by omega⟩
  have e3 : (0 : Int) ≤ (i : Int) ∧ (i : Int) ≤ (N : Int) := ⟨by omega, by omega⟩
  have hic : h ≤ c := by omega
  rcases hlo with ⟨rfl, rfl⟩ | ⟨κ, rfl⟩ <;> rcases hhi with ⟨rfl, rfl⟩ | ⟨κ', rfl⟩ <;>
    simp [Instr.sliceAt, Instr.slice, Instr.sliceBounds, Instr.sliceBound, asIntOf, Sem.run_bind, run_underlying hu, Result.andThen, hz, e1, e2, e3, h1, h2, h3, hic, vsl]
theorem op_sliceC (hs : St n w0 fs bs a w) (m ms : Option Nat) (k i h : Nat) {T E : TypeId} {x : Operand} {lo hi : Option Operand} {v : Value} {z N : Nat} {cs : List Value} {d : Nat} (ho : o.op = .slice T x lo hi none) (hd : o.dst = some d) (hx : ev fs x = some v)
    (hk : w0.S[k]? = some (true, .cel v N cs)) (hlo : lo = none ∧ i = 0 ∨ ∃ y κ, lo = some y ∧ ev fs y = some (.int κ (i : Int))) (hhi : hi = none ∧ h = N ∨ ∃ y κ, hi = some y ∧ ev fs y = some (.int κ (h : Int)))
    (hu : P.underlying T = some (.slice E)) (hz : ∀ w, (sizeOf E).run P w = .ok z w) (h1 : i ≤ h) (h2 : h ≤ N) (hokS : okS ms w0.S 1 = true) (hok : okf m fs d n = true)
    (hK : ∀ a', St n (w0.withS (putS ms w0.S [.cel (vsl v z i h) (h - i) ((cs.drop (i * z)).take ((h - i) * z))])) (putf m fs d (vsl v z i h)) bs a' w → K a' w) : o.wp P a w K Q := by
  have hall := hs.all hk rfl
  have hnew : OkL w (Zall w0 bs) (Bn w.heap.size noX) [.cel (vsl v z i h) (h - i) ((cs.drop (i * z)).take ((h - i) * z))] := okl1 (celv_part z i h hall h1 h2)
  obtain ⟨ad, c, rfl, hN, _⟩ := hs.row (k := k) (v := v) (N := N) (cs := cs) (by unfold rowAt; rw [hk])
  have hrun := run_sliceC (P := P) (T := T) (E := E) (ad := ad) (N := N) (c := c) (z := z) (i := i) (h := h) (lo := lo.map a.eval) (hi := hi.map a.eval) hu hz
    (by rcases hlo with ⟨rfl, rfl⟩ | ⟨y, κ, rfl, hy⟩
        · exact .inl ⟨rfl, rfl⟩
        · exact .inr ⟨κ, by simp [hs.ev hy]⟩)
    (by rcases hhi with ⟨rfl, rfl⟩ | ⟨y, κ, rfl, hy⟩
        · exact .inl ⟨rfl, rfl⟩
        · exact .inr ⟨κ, by simp [hs.ev hy]⟩) h1 h2 hN w
  have hs' := hs.pushS ms (L := [.cel (vsl (.slice ad N c) z i h) (h - i) ((cs.drop (i * z)).take ((h - i) * z))]) hokS hnew
  refine op_val hs' m hd hok ?_ hK
  unfold execOp
  rw [ho]
  simp only [hs.ev hx, Option.map_none] at hrun ⊢
  simp [hrun, Sem.run_bind, Result.andThen]
theorem St.nilOwn (hs : St n w0 fs bs a w) (m : Option Nat) (E : TypeId) (size : Nat) (hok : okS m w0.S 1 = true) : St n (w0.withS (putS m w0.S [.own (.slice none 0 0) E size 0 []])) fs bs a w :=
  hs.pushS m hok (okl1 ⟨World.ownsRow_nil w _ E size, fun g hg => by cases hg⟩)
theorem celv_nil {w : World} {Z : Nat → Prop} : CelV w Z (.slice none 0 0) 0 [] := ⟨none, 0, rfl, Nat.le_refl _, Nat.zero_le _, fun _ => rfl, fun j u hu => by simp at hu⟩
theorem St.nilCel (hs : St n w0 fs bs a w) (m : Option Nat) (hok : okS m w0.S 1 = true) : St n (w0.withS (putS m w0.S [.cel (.slice none 0 0) 0 []])) fs bs a w := hs.pushS m hok (okl1 celv_nil)
theorem St.pick (hs : St n w0 fs bs a w) (m : Option Nat) (k : Nat) {vs : List Value} {ls : List (List UInt8)} {i : Nat} {v : Value} {l : List UInt8} (hk : w0.S[k]? = some (true, .bys vs ls)) (hv : vs[i]? = some v) (hl : ls[i]? = some l) (hok : okS m w0.S 1 = true) :
    St n (w0.withS (putS m w0.S [.cel v l.length (bcs l)])) fs bs a w := hs.pushS m hok (okl1 ((hs.all hk rfl).2 i v l hv hl))
def selS (S : List (Bool × Fz)) : List Nat → Option (List (Bool × Fz))
  | [] => some []
  | k :: ks => match S[k]?, selS S ks with
    | some e, some l => some (e :: l)
    | _, _ => none
theorem selS_get {S : List (Bool × Fz)} : ∀ {ks : List Nat} {S' : List (Bool × Fz)}, selS S ks = some S' → ∀ (i : Nat) (e : Bool × Fz), S'[i]? = some e → ∃ k, ks[i]? = some k ∧ S[k]? = some e
  | [], S', h, i, e, he => by
    obtain rfl : [] = S' := by simpa [selS] using h
    simp at he
  | k :: ks, S', h, i, e, he => by
    unfold selS at h
    split at h
    · rename_i e0 l h1 h2
      obtain rfl : e0 :: l = S' := by simpa using h
      cases i with
      | zero =>
        obtain rfl : e0 = e := by simpa using he
        exact ⟨k, rfl, h1⟩
      | succ i => exact selS_get h2 i e (by simpa using he)
    · cases h
theorem St.selS (hs : St n w0 fs bs a w) (ks : List Nat) {S' : List (Bool × Fz)} (h : Go.Proofs.YtejbajgpiecjcaaGreat.selS w0.S ks = some S') (hnd : ks.Nodup) : St n (w0.withS S') fs bs a w := by
  refine ⟨hs.size, hs.defers, hs.slots, hs.blks, hs.apart, hs.below, hs.frz, fun i e he h1 => ?_⟩
  obtain ⟨k, hk, hSk⟩ := selS_get h i e he
  refine Fz.ok_mono (fun _ _ h => h) (fun g hg _ => ⟨⟨hg.1, hg.2.1, fun j e' hji hj he' => ?_⟩, rfl⟩) (hs.fz k e hSk h1)
  obtain ⟨k', hk', hSk'⟩ := selS_get h j e' hj
  refine hg.2.2 k' e' (fun hkk => hji ?_) hSk' he'
  subst hkk
  obtain ⟨l1, e1⟩ := List.getElem?_eq_some_iff.1 hk
  obtain ⟨l2, e2⟩ := List.getElem?_eq_some_iff.1 hk'
  have hp := List.pairwise_iff_getElem.1 hnd
  rcases Nat.lt_trichotomy i j with hlt | heq | hlt
  · exact absurd (e1.trans e2.symm) (hp i j l1 l2 hlt)
  · exact heq.symm
  · exact absurd (e2.trans e1.symm) (hp j i l2 l1 hlt)
theorem St.conS (hs : St n w0 fs bs a w) (k : Nat) {e e' : Fz} (h : w0.S[k]? = some (true, e)) (hok : ∀ Z, e.ok w Z w0.B → e'.ok w Z w0.B) (ho : ∀ g, e'.owns g → e.owns g) : St n (w0.withS (w0.S.set k (true, e'))) fs bs a w := by
  have key : ∀ (i : Nat) (x : Bool × Fz), (w0.S.set k (true, e'))[i]? = some x → (i = k ∧ x = (true, e')) ∨ (i ≠ k ∧ w0.S[i]? = some x) := by
    intro i x hx
    rw [List.getElem?_set] at hx
    split at hx
    · rename_i hik
      split at hx
      · exact .inl ⟨hik.symm, by simpa using hx.symm⟩
      · cases hx
    · rename_i hik; exact .inr ⟨fun e => hik e.symm, hx⟩
  refine ⟨hs.size, hs.defers, hs.slots, hs.blks, hs.apart, hs.below, hs.frz, fun i x hx h1 => ?_⟩
  have base : ∀ (j : Nat) (y : Bool × Fz) (g : Nat), (w0.S.set k (true, e'))[j]? = some y → y.1 = true → y.2.owns g → ∃ y', w0.S[j]? = some y' ∧ y'.1 = true ∧ y'.2.owns g := by
    intro j y g hj hy hg
    rcases key j y hj with ⟨rfl, rfl⟩ | ⟨_, h2⟩
    · exact ⟨_, h, rfl, ho g hg⟩
    · exact ⟨y, h2, hy, hg⟩
  have z : ∀ g, Zs w0 bs i g → Zs (w0.withS (w0.S.set k (true, e'))) bs i g := fun g hg => ⟨hg.1, hg.2.1, fun j y hji hj hy ho' => by
    obtain ⟨y', h3, h4, h5⟩ := base j y g hj hy ho'
    exact hg.2.2 j y' hji h3 h4 h5⟩
  rcases key i x hx with ⟨rfl, rfl⟩ | ⟨_, h2⟩
  · exact Fz.ok_mono (fun _ _ h => h) (fun g hg _ => ⟨z g hg, rfl⟩) (hok _ (hs.fz i _ h rfl))
  · exact Fz.ok_mono (fun _ _ h => h) (fun g hg _ => ⟨z g hg, rfl⟩) (hs.fz i _ h2 h1)
theorem St.freeze (hs : St n w0 fs bs a w) (k : Nat) {v : Value} {E : TypeId} {size N : Nat} {xs : List Value} (h : w0.S[k]? = some (true, .own v E size N xs)) : St n (w0.withS (w0.S.set k (true, .cel v N xs))) fs bs a w :=
  hs.conS k h (fun Z hz => own_cel hz.1 fun g hg => (hz.2 g hg).1) (fun g hg => by cases hg)
theorem St.celEq (hs : St n w0 fs bs a w) (k : Nat) {v : Value} {N N' : Nat} {cs cs' : List Value} (h : w0.S[k]? = some (true, .cel v N cs)) (hN : N = N') (hc : cs = cs') : St n (w0.withS (w0.S.set k (true, .cel v N' cs'))) fs bs a w := by
  subst hN; subst hc
  exact hs.conS k h (fun Z hz => hz) (fun g hg => hg)
theorem St.ownEq (hs : St n w0 fs bs a w) (k : Nat) {v : Value} {E : TypeId} {size N N' : Nat} {xs xs' : List Value} (h : w0.S[k]? = some (true, .own v E size N xs)) (hN : N = N') (hc : xs = xs') : St n (w0.withS (w0.S.set k (true, .own v E size N' xs'))) fs bs a w := by
  subst hN; subst hc
  exact hs.conS k h (fun Z hz => hz) (fun g hg => hg)
theorem St.ret1 (hs : St n w0 fs bs a w) (k : Nat) {e : Fz} (h : w0.S[k]? = some (true, e)) : OkL w w0.Z w0.B [e] := by
  intro i e' he
  cases i with
  | zero =>
    obtain rfl : e = e' := by simpa using he
    exact Fz.ok_mono (fun _ _ h => h) (fun g hg _ => ⟨⟨hg.1, fun j e' hj he' => by
      cases j with
      | zero => exact absurd rfl hj
      | succ j => simp at he'⟩, rfl⟩) (hs.fz k _ h rfl)
  | succ i => simp at he
end
end Go.Proofs.YtejbajgpiecjcaaGreat

/- Appends onto rows beside the blocks; bytes to strings and back; loops' entries. -/
namespace Go.Proofs.YtejbajgpiecjcaaGreat
open Go.RowKit
def vsa (a : Option Addr) (c z i : Nat) : Option Addr := if c = i then a else a.map (·.add (i * z))
section
variable {P : Program} {Q : Exit → Act → World → Prop} {K : Act → World → Prop} {a : Act} {w : World} {o : Oper} {n : Nat} {w0 : Bs} {fs : List Sl} {bs : List Bl}
theorem St.grown (hs : St n w0 fs bs a w) (hF : w0.F = []) {k : Nat} {v v' : Value} {E : TypeId} {size N N' : Nat} {xs xs' : List Value} {w' : World} (hk : w0.S[k]? = some (true, .own v E size N xs)) (ho : w'.ownsRow 0 E size v' N' xs') (hg : w.grownBy w' v.ownBlock)
    (hv : v'.ownBlock = v.ownBlock ∨ v'.ownBlock = some w.heap.size) : St n (w0.withS (w0.S.set k (true, .own v' E size N' xs'))) fs bs a w' := by
  have hown := hs.fz k _ hk rfl
  have hvb : ∀ g, v.ownBlock = some g → Zs w0 bs k g ∧ w0.B g := fun g h => hown.2 g h
  have hsz := hs.below.size
  have key : ∀ (i : Nat) (x : Bool × Fz), (w0.S.set k (true, .own v' E size N' xs'))[i]? = some x → (i = k ∧ x = (true, .own v' E size N' xs')) ∨ (i ≠ k ∧ w0.S[i]? = some x) := by
    intro i x hx
    rw [List.getElem?_set] at hx
    split at hx
    · rename_i hik
      split at hx
      · exact .inl ⟨hik.symm, by simpa using hx.symm⟩
      · cases hx
    · rename_i hik; exact .inr ⟨fun e => hik e.symm, hx⟩
  refine ⟨hs.size, hs.defers, hs.slots, fun i e he h1 => ?_, hs.apart, hs.below.grown hg hs.below.size (fun g hg => (hvb g hg.symm.symm).2), fun p hp => ⟨?_, (hs.frz p hp).2⟩, fun i x hx h1 => ?_⟩
  · have hold := hs.blks i e he h1
    refine ⟨(hg.block _ (hs.lt he h1) fun e' => ?_).trans hold.1, hold.2⟩
    exact (hvb _ e'.symm).1.2.1 i e he h1 rfl
  · rw [hF] at hp; cases hp
  · rcases key i x hx with ⟨rfl, rfl⟩ | ⟨hik, h2⟩
    · refine ⟨ho, fun g hgb => ?_⟩
      rcases hv with hv | hv
      · have := (hvb g (hv ▸ hgb)).1
        exact ⟨⟨this.1, this.2.1, fun j y hji hj hy => by
          rcases key j y hj with ⟨hjk, _⟩ | ⟨_, h3⟩
          · exact absurd hjk hji
          · exact this.2.2 j y hji h3 hy⟩, (hvb g (hv ▸ hgb)).2⟩
      · have hgw : g = w.heap.size := by rw [hv] at hgb; exact (Option.some.inj hgb).symm
        have hBg : w0.B g := .inl (by have : w0.w.heap.size ≤ w.heap.size := hsz; show w0.w.heap.size ≤ g; omega)
        refine ⟨⟨.inr hBg, fun j b hj hb1 => ?_, fun j y hji hj hy => ?_⟩, hBg⟩
        · have := hs.lt hj hb1; omega
        · rcases key j y hj with ⟨hjk, _⟩ | ⟨_, h3⟩
          · exact absurd hjk hji
          · intro ho'
            have := (Fz.ok_lt (hs.fz j y h3 hy) ho').1
            omega
    · have hz : ∀ g, Zs w0 bs i g → g < w.heap.size → Zs (w0.withS (w0.S.set k (true, .own v' E size N' xs'))) bs i g := by
        intro g hgz hlt
        refine ⟨hgz.1, hgz.2.1, ?_⟩
        intro j y hji hj hy
        rcases key j y hj with ⟨rfl, rfl⟩ | ⟨_, h3⟩
        · intro ho'
          rcases hv with hv | hv
          · exact hgz.2.2 j _ hji hk rfl (show v.ownBlock = some g by rw [← hv]; exact ho')
          · have : g = w.heap.size := by
              have h5 : v'.ownBlock = some g := ho'
              rw [hv] at h5; exact (Option.some.inj h5).symm
            omega
        · exact hgz.2.2 j y hji h3 hy
      refine Fz.ok_mono (fun _ _ h => h) (fun g hgz hlt => ⟨hz g hgz hlt, hg.block g hlt ?_⟩) (hs.fz i x h2 h1)
      intro e'
      exact hgz.2.2 k _ (fun e => hik e.symm) hk rfl e'.symm
theorem celv_news {w : World} {Z : Nat → Prop} {ad : Option Addr} {M c : Nat} {cs : List Value} (h : CelV w Z (.slice ad M c) M cs) : (ad = none ∧ M = 0 ∧ c = 0) ∨ ∃ p, ad = some p ∧ ∀ (j : Nat) (u : Value), cs[j]? = some u → w.cell? (p.add j) = some u := by
  obtain ⟨ad', c', e, h2, h3, h4, h5⟩ := h
  obtain ⟨rfl, rfl⟩ : ad = ad' ∧ c = c' := by simpa using e
  cases ad with
  | none => have := h4 rfl; exact .inl ⟨rfl, by omega, this⟩
  | some p =>
    refine .inr ⟨p, rfl, fun j u hu => ?_⟩
    obtain ⟨g, off, e2, _, h6⟩ := h5 j u hu
    obtain rfl : p = ⟨g, off, none⟩ := by simpa using e2
    rw [Addr.add_mid]; exact h6
theorem app_core (hs : St n w0 fs bs a w) (m : Option Nat) (k : Nat) {x y : Operand} {T E : TypeId} {z v : Value} {size bytes N M c : Nat} {ad : Option Addr} {xs cs : List Value} {d : Nat} (hF : w0.F = [])
    (ho : o.op = .call ⟨.builtin .append, #[x, y], #[T, T]⟩) (hd : o.dst = some d) (hx : ev fs x = some v) (hy : ev fs y = some (.slice ad M c)) (hk : w0.S[k]? = some (true, .own v E size N xs))
    (hnews : (ad = none ∧ M = 0 ∧ c = 0) ∨ ∃ p, ad = some p ∧ ∀ (j : Nat) (u : Value), cs[j]? = some u → w.cell? (p.add j) = some u)
    (hu : P.underlying T = some (.slice E)) (hi : Inf P E z size bytes) (hzs : z.cells.size = size) (hs0 : 0 < size) (hcl : cs.length = M * size) (h1 : ∀ u ∈ cs, u.oneCell' = true) (hby : bytes ≤ 64) (hl : N + M ≤ 1000000) (hok : okf m fs d n = true)
    (h : ∀ a' c' act w', St n (w0.withS (w0.S.set k (true, .own (.slice a' (N + M) c') E size (N + M) (xs ++ cs)))) (putf m fs d (.slice a' (N + M) c')) bs act w' → K act w') : o.wp P a w K Q := by
  obtain ⟨i, hi, hz, hs1, hb1⟩ := hi
  have hmax : (1000001 : Nat) ≤ maxLen := by decide
  have hown := (hs.fz k _ hk rfl).1
  have hm : (#[x, y] : Array Operand).map a.eval = #[v, .slice ad M c] := by simp [hs.ev hx, hs.ev hy]
  unfold Oper.wp execOp
  rw [ho]
  simp only [resolve, hm, Sem.run_bind, Sem.run_pure, Result.andThen_ok, invoke, builtin]
  rcases hnews with ⟨rfl, rfl, rfl⟩ | ⟨p, rfl, hnews⟩
  · have hcs : cs = [] := by simpa using hcl
    subst hcs
    rw [run_append_owned_none (P := P) (w := w) 0 T o.type E i size hu hi v N xs hown]
    simp only [Result.andThen_ok, Sem.run_pure, Oper.upon_value, hd, Nat.add_zero, List.append_nil] at h ⊢
    have hv : ∃ a' c', v = .slice a' N c' := by
      rcases hown.2 with ⟨rfl, rfl⟩ | ⟨g, cap, cur, rfl, _⟩
      · exact ⟨_, _, rfl⟩
      · exact ⟨_, _, rfl⟩
    obtain ⟨a', c', rfl⟩ := hv
    refine h a' c' _ _ (St.put ?_ hok _)
    have := hs.ownEq k hk rfl rfl
    exact this
  · obtain ⟨v', w', hr, h2, h3, h4, h5⟩ := run_append_own_at (P := P) w 0 T o.type E i z size bytes hu hi hz hs1 hb1 hzs hs0 v N xs hown p M c cs hcl hnews h1 (by omega) (by
      have : (N + M) * bytes ≤ 1000000 * 64 := Nat.mul_le_mul hl hby
      omega) (Nat.zero_le _)
    rw [hr]
    have hv : ∃ a' c', v' = .slice a' (N + M) c' := by
      rcases h2.2 with ⟨rfl, h0⟩ | ⟨g, cap, cur, rfl, _⟩
      · exact ⟨none, 0, by rw [h0]⟩
      · exact ⟨_, _, rfl⟩
    obtain ⟨a', c', rfl⟩ := hv
    simp only [Result.andThen_ok, Sem.run_pure, Oper.upon_value, hd]
    exact h a' c' _ _ ((hs.grown hF hk h2 h3 h5).put hok _)
theorem op_appO (hs : St n w0 fs bs a w) (m : Option Nat) (k k2 : Nat) {x y : Operand} {T E : TypeId} {z v : Value} {size bytes N M c : Nat} {ad : Option Addr} {xs cs : List Value} {d : Nat} (hF : w0.F = [])
    (ho : o.op = .call ⟨.builtin .append, #[x, y], #[T, T]⟩) (hd : o.dst = some d) (hx : ev fs x = some v) (hy : ev fs y = some (.slice ad M c)) (hk : w0.S[k]? = some (true, .own v E size N xs)) (hk2 : rowAt w0.S k2 = some (.slice ad M c, M, cs))
    (hu : P.underlying T = some (.slice E)) (hi : Inf P E z size bytes) (hzs : z.cells.size = size) (hs0 : 0 < size) (hcl : cs.length = M * size) (h1 : ∀ u ∈ cs, u.oneCell' = true) (hby : bytes ≤ 64) (hl : N + M ≤ 1000000) (hok : okf m fs d n = true)
    (h : ∀ a' c' act w', St n (w0.withS (w0.S.set k (true, .own (.slice a' (N + M) c') E size (N + M) (xs ++ cs)))) (putf m fs d (.slice a' (N + M) c')) bs act w' → K act w') : o.wp P a w K Q :=
  app_core hs m k hF ho hd hx hy hk (celv_news (hs.row hk2)) hu hi hzs hs0 hcl h1 hby hl hok h
theorem St.toOwn (hs : St n w0 fs bs a w) (ms : Option Nat) (k : Nat) {g : Nat} {E : TypeId} {size N c : Nat} {cs xs : List Value} (hb : bs[k]? = some (true, g, E, cs)) (hc : cs.length = c * size) (hN : N ≤ c) (hm : c ≤ maxLen) (hx : cs.take (N * size) = xs) (hok : okS ms w0.S 1 = true) :
    St n (w0.withS (putS ms w0.S [.own (.slice (some ⟨g, 0, none⟩) N c) E size N xs])) fs (bs.set k (false, g, E, cs)) a w := by
  have hbk := hs.blks k _ hb rfl
  have key : ∀ (i : Nat) (e : Bl), (bs.set k (false, g, E, cs))[i]? = some e → e.1 = true → bs[i]? = some e ∧ i ≠ k := by
    intro i e h h1
    rw [List.getElem?_set] at h
    split at h
    · split at h
      · obtain rfl := Option.some.inj h; cases h1
      · cases h
    · rename_i hik; exact ⟨h, fun e => hik e.symm⟩
  have h0 : St n w0 fs (bs.set k (false, g, E, cs)) a w :=
    ⟨hs.size, hs.defers, hs.slots, fun i e h h1 => hs.blks i e (key i e h h1).1 h1, fun i j e e' hij h h' h1 h1' => hs.apart i j e e' hij (key i e h h1).1 (key j e' h' h1').1 h1 h1', hs.below, fun p hp => ⟨(hs.frz p hp).1, fun i e h h1 => (hs.frz p hp).2 i e (key i e h h1).1 h1⟩,
      fun i e h h1 => Fz.ok_mono (fun _ _ h => h) (fun x hx _ => ⟨⟨hx.1, fun j b hj hb1 => hx.2.1 j b (key j b hj hb1).1 hb1, hx.2.2⟩, rfl⟩) (hs.fz i e h h1)⟩
  have hlen : xs.length = N * size := by
    rw [← hx, List.length_take, hc]
    exact Nat.min_eq_left (Nat.mul_le_mul_right _ hN)
  have hrow : w.ownsRow 0 E size (.slice (some ⟨g, 0, none⟩) N c) N xs :=
    ⟨hlen, .inr ⟨g, c, cs.toArray, rfl, Nat.zero_le _, hbk.1, hN, hm, by simpa using hc, by simpa using hx⟩⟩
  have hz : Zall w0 (bs.set k (false, g, E, cs)) g := by
    refine ⟨.inr hbk.2, fun j b hj hb1 => ?_, fun j e hj he ho => ?_⟩
    · obtain ⟨h1, h2⟩ := key j b hj hb1
      exact hs.apart j k b (true, g, E, cs) h2 h1 hb hb1 rfl
    · exact (Fz.ok_lt (hs.fz j e hj he) ho).2.1.2.1 k _ hb rfl rfl
  obtain ⟨kk, pkey⟩ := putS_get (m := ms) (S := w0.S) (l := [.own (.slice (some ⟨g, 0, none⟩) N c) E size N xs]) hok
  refine ⟨h0.size, h0.defers, h0.slots, h0.blks, h0.apart, h0.below, h0.frz, fun i e h h1 => ?_⟩
  rcases pkey i e h with ⟨hki, _, hLi⟩ | ⟨hS, hno⟩
  · have hi0 : i - kk = 0 := by
      have := (List.getElem?_eq_some_iff.1 hLi).1
      simp at this; omega
    rw [hi0] at hLi
    obtain ⟨b, e2⟩ := e
    obtain rfl : Fz.own (.slice (some ⟨g, 0, none⟩) N c) E size N xs = e2 := by simpa using hLi
    refine ⟨hrow, fun g' hg' => ?_⟩
    obtain rfl : g = g' := by simpa [Value.ownBlock] using hg'
    refine ⟨⟨hz.1, hz.2.1, fun j e' hji hj he' => ?_⟩, hbk.2⟩
    rcases pkey j e' hj with ⟨hkj, _, hLj⟩ | ⟨hSj, _⟩
    · have := (List.getElem?_eq_some_iff.1 hLj).1
      simp at this; omega
    · exact hz.2.2 j e' hSj he'
  · refine Fz.ok_mono (fun _ _ h => h) (fun x hx hlt => ⟨⟨hx.1, fun j b hj hb1 => hx.2.1 j b (key j b hj hb1).1 hb1, fun j e' hji hj he' => ?_⟩, rfl⟩) (hs.fz i e hS h1)
    rcases pkey j e' hj with ⟨hkj, _, hLj⟩ | ⟨hSj, _⟩
    · have hj0 : j - kk = 0 := by
        have := (List.getElem?_eq_some_iff.1 hLj).1
        simp at this; omega
      rw [hj0] at hLj
      have : Fz.own (.slice (some ⟨g, 0, none⟩) N c) E size N xs = e'.2 := by simpa using hLj
      rw [← this]
      intro hgx
      have hgx' : g = x := by simpa [Fz.owns, Value.ownBlock] using hgx
      exact hx.2.1 k _ hb rfl hgx'
    · exact hx.2.2 j e' hji hSj he'
def byt (l : List UInt8) (j : Nat) : Nat := (l.getD j 0).toNat
theorem byt_lt (l : List UInt8) (j : Nat) : byt l j < 256 := UInt8.toNat_lt _
theorem bcs_length (l : List UInt8) : (bcs l).length = l.length := by simp [bcs]
theorem bcs_get {l : List UInt8} {j : Nat} (h : j < l.length) : (bcs l)[j]? = some (.int .u8 (byt l j : Int)) := by
  simp [bcs, byt, h]
theorem bcs_part (l : List UInt8) (i k : Nat) : ((bcs l).drop (i * 1)).take (k * 1) = bcs ((l.drop i).take k) := by
  simp [bcs, List.map_drop, List.map_take]
theorem bcs_one (l : List UInt8) : ∀ u ∈ bcs l, u.oneCell' = true := by
  intro u hu
  obtain ⟨b, _, rfl⟩ := List.mem_map.1 hu
  rfl
theorem bcs_len1 {l : List UInt8} {M : Nat} (h : M = l.length) : (bcs l).length = M * 1 := by rw [bcs_length, h, Nat.mul_one]
theorem bcs_append (l k : List UInt8) : bcs l ++ bcs k = bcs (l ++ k) := by simp [bcs]
theorem St.padS (hs : St n w0 fs bs a w) {e : Fz} : St n (w0.withS (w0.S ++ [(false, e)])) fs bs a w := by
  have key : ∀ (i : Nat) (x : Bool × Fz), (w0.S ++ [(false, e)])[i]? = some x → x.1 = true → w0.S[i]? = some x := by
    intro i x h h1
    rw [List.getElem?_append] at h
    split at h
    · exact h
    · obtain ⟨hlt, rfl⟩ := List.getElem?_eq_some_iff.1 h
      simp at h1
  exact ⟨hs.size, hs.defers, hs.slots, hs.blks, hs.apart, hs.below, hs.frz, fun i x h h1 => Fz.ok_mono (fun _ _ h => h) (fun g hg _ => ⟨⟨hg.1, hg.2.1, fun j y hji hj hy => hg.2.2 j y hji (key j y hj hy) hy⟩, rfl⟩) (hs.fz i x (key i x h h1) h1)⟩
theorem toList_beq (x y : ByteArray) : (x.toList == y.toList) = decide (x = y) := by
  rw [Bool.eq_iff_iff, beq_iff_eq, decide_eq_true_iff, ByteArray.toList_eq, ByteArray.toList_eq]
  exact ⟨fun h => ByteArray.ext (Array.toList_inj.1 h), fun h => h ▸ rfl⟩
abbrev txt (l : List UInt8) : ByteArray := ⟨l.toArray⟩
theorem txt_inj {l k : List UInt8} : txt l = txt k ↔ l = k := by
  constructor
  · intro h
    have := congrArg ByteArray.data h
    simpa using this
  · intro h; rw [h]
theorem bin_eqlT {T : TypeId} {l k : List UInt8} {b : Bool} (h : decide (l = k) = b) (w : World) : (binOp .eql T (.string (txt l)) (.string (txt k))).run P w = .ok (.bool b) w := by
  rw [binOp_string_eql, toList_beq, show decide (txt l = txt k) = decide (l = k) from decide_eq_decide.2 txt_inj, h]
  rfl
theorem op_convBS (hs : St n w0 fs bs a w) (m : Option Nat) (k : Nat) {T U E : TypeId} {x : Operand} {ad : Option Addr} {M c : Nat} {l : List UInt8} {d : Nat} (ho : o.op = .convert T U x) (hd : o.dst = some d) (hx : ev fs x = some (.slice ad M c))
    (hk : rowAt w0.S k = some (.slice ad M c, M, bcs l)) (hM : M = l.length) (hS : P.underlying T = some (.slice E)) (hE : P.underlying E = some (.int .u8)) (hD : P.underlying U = some .string) (hok : okf m fs d n = true)
    (h : ∀ a', St n w0 (putf m fs d (.string (txt l))) bs a' w → K a' w) : o.wp P a w K Q := by
  subst hM
  refine op_val hs m hd hok ?_ h
  unfold execOp
  rw [ho]
  simp only [hs.ev hx]
  rcases celv_news (hs.row hk) with ⟨rfl, h0, rfl⟩ | ⟨p, rfl, hn⟩
  · have : l = [] := List.length_eq_zero_iff.1 h0
    subst this
    have e : (convert T U (.slice none 0 0)).run P w = .ok (.string (txt [])) w := by
      rw [run_convert_bytes_string w T U E none 0 0 hS hE hD]
      simp [Conv.bytesToString]
      rfl
    simp [e, Sem.run_bind, Result.andThen]
  · have := run_convert_bytes_back (P := P) w T U E p c l hS hE hD (fun j hj => by
      have h2 := hn j (.int .u8 (l[j].toNat : Int)) (by simp [bcs, hj])
      exact h2)
    simp [this, Sem.run_bind, Result.andThen]
theorem op_appR (hs : St n w0 fs bs a w) (m : Option Nat) (k k2 : Nat) {x y : Operand} {T E : TypeId} {z v : Value} {size bytes N M c N' : Nat} {ad : Option Addr} {xs cs ys : List Value} {d : Nat}
    (ho : o.op = .call ⟨.builtin .append, #[x, y], #[T, T]⟩) (hd : o.dst = some d) (hx : ev fs x = some v) (hy : ev fs y = some (.slice ad M c)) (hk : w0.S[k]? = some (true, .own v E size N xs)) (hk2 : rowAt w0.S k2 = some (.slice ad M c, M, cs))
    (hu : P.underlying T = some (.slice E)) (hi : Inf P E z size bytes) (hzs : z.cells.size = size) (hs0 : 0 < size) (hcl : cs.length = M * size) (h1 : ∀ u ∈ cs, u.oneCell' = true) (hby : bytes ≤ 64) (hl : N + M ≤ 1000000) (hN : N + M = N') (hys : xs ++ cs = ys) (hF : w0.F = []) (hok : okf m fs d n = true)
    (h : ∀ a' c' act w', St n (w0.withS (w0.S.set k (true, .own (.slice a' N' c') E size N' ys))) (putf m fs d (.slice a' N' c')) bs act w' → K act w') : o.wp P a w K Q := by
  subst hN; subst hys
  exact op_appO hs m k k2 hF ho hd hx hy hk hk2 hu hi hzs hs0 hcl h1 hby hl hok h
theorem op_sliceR (hs : St n w0 fs bs a w) (m ms : Option Nat) (k i j : Nat) {T E : TypeId} {x : Operand} {lo hi : Option Operand} {ad : Option Addr} {z N c N' : Nat} {cs cs' : List Value} {d : Nat} (ho : o.op = .slice T x lo hi none) (hd : o.dst = some d) (hx : ev fs x = some (.slice ad N c))
    (hk : w0.S[k]? = some (true, .cel (.slice ad N c) N cs)) (hlo : lo = none ∧ i = 0 ∨ ∃ y κ, lo = some y ∧ ev fs y = some (.int κ (i : Int))) (hhi : hi = none ∧ j = N ∨ ∃ y κ, hi = some y ∧ ev fs y = some (.int κ (j : Int)))
    (hu : P.underlying T = some (.slice E)) (hz : ∀ w, (sizeOf E).run P w = .ok z w) (h1 : i ≤ j) (h2 : j ≤ N) (hN : j - i = N') (hc : (cs.drop (i * z)).take ((j - i) * z) = cs') (hokS : okS ms w0.S 1 = true) (hok : okf m fs d n = true)
    (hK : ∀ a', St n (w0.withS (putS ms w0.S [.cel (.slice (vsa ad c z i) N' (c - i)) N' cs'])) (putf m fs d (.slice (vsa ad c z i) N' (c - i))) bs a' w → K a' w) : o.wp P a w K Q := by
  subst hN; subst hc
  exact op_sliceC hs m ms k i j ho hd hx hk hlo hhi hu hz h1 h2 hokS hok hK
theorem St.ownLast (hs : St n w0 fs bs a w) (ms : Option Nat) {g : Nat} {E : TypeId} {size N c : Nat} {cs xs : List Value} {bs' : List Bl} (hbs : bs = bs' ++ [(true, g, E, cs)]) (hc : cs.length = c * size) (hN : N ≤ c) (hm : c ≤ maxLen) (hx : cs.take (N * size) = xs) (hok : okS ms w0.S 1 = true) :
    St n (w0.withS (putS ms w0.S [.own (.slice (some ⟨g, 0, none⟩) N c) E size N xs])) fs bs' a w := by
  subst hbs
  have h1 := hs.toOwn ms bs'.length (g := g) (E := E) (size := size) (N := N) (c := c) (cs := cs) (xs := xs) (by simp) hc hN hm hx hok
  have h2 := h1.takeb bs'.length
  have e : ((bs' ++ [(true, g, E, cs)]).set bs'.length (false, g, E, cs)).take bs'.length = bs' := by
    rw [List.take_set_of_le (Nat.le_refl _), List.take_left]
  rw [e] at h2
  exact h2
theorem op_bsO (hs : St n w0 fs bs a w) (m ms : Option Nat) {T E : TypeId} {ps : Array (Nat × Operand)} {l : Nat} {qs : List (Nat × Value)} {z : Value} {size bytes : Nat} {cs cs' : List Value} {d : Nat} (ho : o.op = .buildSlice T l ps) (hd : o.dst = some d)
    (hx : evs fs (ps.toList.map (·.2)) = some (qs.map (·.2))) (hi : ps.toList.map (·.1) = qs.map (·.1)) (hu : P.underlying T = some (.slice E)) (hI : Inf P E z size bytes) (hl : l * size ≤ 1000) (hl0 : 0 < l * size)
    (hf : Instr.fill (fun i => some (i * size, size)) ((Array.range (l * size)).map (z.cells[· % z.cells.size]!)) qs = some cs.toArray) (hlen : cs.length = l * size) (hc : cs = cs') (hokS : okS ms w0.S 1 = true) (hok : okf m fs d n = true)
    (h : ∀ a' act w', St n (w0.withS (putS ms w0.S [.own (.slice a' l l) E size l cs'])) (putf m fs d (.slice a' l l)) bs act w' → K act w') : o.wp P a w K Q := by
  subst hc
  obtain ⟨ie, hie, hz, hs1, _⟩ := hI
  have hmax : (1000001 : Nat) ≤ maxLen := by decide
  have hsz : 1 ≤ size := by
    rcases Nat.eq_zero_or_pos size with h0 | h0
    · rw [h0, Nat.mul_zero] at hl0; omega
    · exact h0
  have hll : l ≤ 1000 := Nat.le_trans (by have := Nat.mul_le_mul_left l hsz; omega) hl
  refine op_buildSlice hs m none (E := E) (l := l) (qs := qs) (cs := cs) ho hd hx hi (fun w => ?_) rfl hok fun g act w' hs' => ?_
  · refine run_buildSlice w T E l _ _ ie z hu hie hz ?_ ?_ ?_
    · rw [hs1]; omega
    · rw [hs1]; omega
    · rw [hs1]; exact hf
  · exact h (some ⟨g, 0, none⟩) act w' (hs'.ownLast ms rfl hlen (Nat.le_refl _) (by omega) (by rw [← hlen]; exact List.take_length) hokS)
theorem op_bsO0 (hs : St n w0 fs bs a w) (m ms : Option Nat) {T E : TypeId} {z : Value} {size bytes : Nat} {d : Nat} (ho : o.op = .buildSlice T 0 #[]) (hd : o.dst = some d) (hu : P.underlying T = some (.slice E)) (hI : Inf P E z size bytes)
    (hokS : okS ms w0.S 1 = true) (hok : okf m fs d n = true)
    (h : ∀ a' act w', St n (w0.withS (putS ms w0.S [.own (.slice a' 0 0) E size 0 []])) (putf m fs d (.slice a' 0 0)) bs act w' → K act w') : o.wp P a w K Q := by
  refine op_bs0 hs m none ho hd hu hI rfl hok fun g act w' hs' => ?_
  exact h (some ⟨g, 0, none⟩) act w' (hs'.ownLast ms (size := size) (N := 0) (c := 0) (xs := []) rfl (by simp) (Nat.le_refl _) (by decide) (by simp) hokS)
theorem fill_one (x : Value) (z : Value) (hx : x.cells = #[x]) : Instr.fill (fun i => some (i * 1, 1)) ((Array.range (1 * 1)).map (z.cells[· % z.cells.size]!)) [(0, x)] = some [x].toArray := by
  simp [Instr.fill, hx, show Array.range 1 = #[0] from Array.ext' (by simp [List.range_succ])]
theorem fill_two (x y : Value) (z : Value) (hx : x.cells = #[x]) (hy : y.cells = #[y]) : Instr.fill (fun i => some (i * 1, 1)) ((Array.range (2 * 1)).map (z.cells[· % z.cells.size]!)) [(0, x), (1, y)] = some [x, y].toArray := by
  simp [Instr.fill, hx, hy, show Array.range 2 = #[0, 1] from Array.ext' (by simp [List.range_succ])]
theorem fill_three (x y u : Value) (z : Value) (hx : x.cells = #[x]) (hy : y.cells = #[y]) (hu : u.cells = #[u]) : Instr.fill (fun i => some (i * 1, 1)) ((Array.range (3 * 1)).map (z.cells[· % z.cells.size]!)) [(0, x), (1, y), (2, u)] = some [x, y, u].toArray := by
  simp [Instr.fill, hx, hy, hu, show Array.range 3 = #[0, 1, 2] from Array.ext' (by simp [List.range_succ])]
theorem bcs_cons {x : Nat} {cs : List Value} {l : List UInt8} (h : x < 256) (hl : cs = bcs l) : Value.int .u8 (x : Int) :: cs = bcs (UInt8.ofNat x :: l) := by
  subst hl
  have : (UInt8.ofNat x).toNat = x := by simp; omega
  simp only [bcs, List.map_cons, this]
theorem bcs_lo {l : List UInt8} {i : Nat} : ((bcs l).drop (i * 1)).take ((l.length - i) * 1) = bcs (l.drop i) := by
  rw [bcs_part, List.take_of_length_le (by simp)]
theorem bcs_hi {l : List UInt8} {j : Nat} : ((bcs l).drop (0 * 1)).take ((j - 0) * 1) = bcs (l.take j) := by
  rw [bcs_part]; simp
theorem len_lo {l : List UInt8} {i : Nat} : l.length - i = (l.drop i).length := List.length_drop.symm
theorem len_hi {l : List UInt8} {j : Nat} (h : j ≤ l.length) : j - 0 = (l.take j).length := by simp; omega
theorem len_both {l : List UInt8} {i j : Nat} (h : i ≤ j) (h2 : j ≤ l.length) : j - i = ((l.drop i).take (j - i)).length := by simp; omega
def Sok (w : World) (Z : Nat → Prop) (B : Nat → Prop) (S : List (Bool × Fz)) : Prop := ∀ (i : Nat) (e : Bool × Fz), S[i]? = some e → e.1 = true → e.2.ok w Z B
theorem sok0 {w : World} {Z : Nat → Prop} {B : Nat → Prop} : Sok w Z B [] := fun i e h => by simp at h
theorem sokC {w : World} {Z : Nat → Prop} {B : Nat → Prop} {e : Fz} {S : List (Bool × Fz)} (h : e.ok w Z B) (hS : Sok w Z B S) : Sok w Z B ((true, e) :: S) := by
  intro i x hx h1
  cases i with
  | zero =>
    obtain rfl : (true, e) = x := by simpa using hx
    exact h
  | succ i => exact hS i x (by simpa using hx) h1
theorem byv_len {w : World} {Z : Nat → Prop} {ad : Option Addr} {N c : Nat} {l : List UInt8} (h : ByV w Z (.slice ad N c) l) : N = l.length := by
  obtain ⟨_, _, e, _⟩ := h
  simp at e; exact e.2.1
theorem bysv_at {w : World} {Z : Nat → Prop} {vs : List Value} {ls : List (List UInt8)} (h : BysV w Z vs ls) {i : Nat} {l : List UInt8} (hl : ls[i]? = some l) : ∃ ad c, vs[i]? = some (.slice ad l.length c) := by
  have hi : i < vs.length := by rw [h.1]; exact (List.getElem?_eq_some_iff.1 hl).1
  obtain ⟨ad, c, e, _⟩ := h.2 i vs[i] l (by simp [hi]) hl
  exact ⟨ad, c, by simp [hi, e]⟩
end
end Go.Proofs.YtejbajgpiecjcaaGreat

/- Calls that write blocks of the caller's; calls that only look; lists of byte strings of one's own. -/
namespace Go.Proofs.YtejbajgpiecjcaaGreat
open Go.RowKit
structure Mem (w0 : Bs) (bs : List Bl) (w : World) : Prop where
  blks : ∀ (i : Nat) (e : Bl), bs[i]? = some e → e.1 = true → w.heap[e.2.1]? = some (.cells e.2.2.2.toArray e.2.2.1 (0, 0)) ∧ w0.B e.2.1
  apart : ∀ (i j : Nat) (e e' : Bl), i ≠ j → bs[i]? = some e → bs[j]? = some e' → e.1 = true → e'.1 = true → e.2.1 ≠ e'.2.1
  below : BelowX w0.X w0.w.heap.size w0.w w
  fz : ∀ (i : Nat) (e : Bool × Fz), w0.S[i]? = some e → e.1 = true → e.2.ok w (Zs w0 bs i) w0.B
def PostX {ρ : Type} (w : World) (Z X : Nat → Prop) (v : ρ → Value) (bf : ρ → List Bl) (E : ρ → List (Bool × Fz)) (e : Ending) (w' : World) : Prop :=
  ∃ r, e = .returned (v r) ∧ Mem ⟨w, [], E r, Z, X⟩ (bf r) w'
def selL {α : Type} (S : List α) : List Nat → Option (List α)
  | [] => some []
  | k :: ks => match S[k]?, selL S ks with
    | some e, some l => some (e :: l)
    | _, _ => none
theorem selL_get {α : Type} {S : List α} : ∀ {ks : List Nat} {S' : List α}, selL S ks = some S' → ∀ (i : Nat) (e : α), S'[i]? = some e → ∃ k, ks[i]? = some k ∧ S[k]? = some e
  | [], S', h, i, e, he => by
    obtain rfl : [] = S' := by simpa [selL] using h
    simp at he
  | k :: ks, S', h, i, e, he => by
    unfold selL at h
    split at h
    · rename_i e0 l h1 h2
      obtain rfl : e0 :: l = S' := by simpa using h
      cases i with
      | zero =>
        obtain rfl : e0 = e := by simpa using he
        exact ⟨k, rfl, h1⟩
      | succ i => exact selL_get h2 i e (by simpa using he)
    · cases h
def setAll {α : Type} (S : List α) : List Nat → List α → List α
  | k :: ks, e :: es => setAll (S.set k e) ks es
  | _, _ => S
theorem setAll_get {α : Type} : ∀ (ks : List Nat) (es S : List α), ks.length = es.length → ∀ (i : Nat) (x : α), (setAll S ks es)[i]? = some x → (∃ p : Nat, ks[p]? = some i ∧ es[p]? = some x) ∨ (S[i]? = some x ∧ i ∉ ks)
  | [], _, S, _, i, x, h => by
    right
    exact ⟨by simpa [setAll] using h, by simp⟩
  | k :: ks, [], _, hl, _, _, _ => by simp at hl
  | k :: ks, e :: es, S, hl, i, x, h => by
    rcases setAll_get ks es (S.set k e) (by simpa using hl) i x h with ⟨p, h1, h2⟩ | ⟨h1, h2⟩
    · exact .inl ⟨p + 1, by simpa using h1, by simpa using h2⟩
    · by_cases hik : i = k
      · subst hik
        left
        refine ⟨0, by simp, ?_⟩
        rw [List.getElem?_set] at h1
        simp at h1
        simp [h1.2]
      · right
        rw [List.getElem?_set, if_neg (fun e => hik e.symm)] at h1
        exact ⟨h1, by simp [hik, h2]⟩
theorem setAll_length {α : Type} : ∀ (ks : List Nat) (es S : List α), (setAll S ks es).length = S.length
  | [], _, S => by simp [setAll]
  | _ :: _, [], _ => by simp [setAll]
  | k :: ks, e :: es, S => by rw [setAll, setAll_length ks es, List.length_set]
theorem nd_ne {ks : List Nat} (h : ks.Nodup) {i j k : Nat} (hi : ks[i]? = some k) (hj : ks[j]? = some k) : i = j := by
  obtain ⟨l1, e1⟩ := List.getElem?_eq_some_iff.1 hi
  obtain ⟨l2, e2⟩ := List.getElem?_eq_some_iff.1 hj
  have hp := List.pairwise_iff_getElem.1 h
  rcases Nat.lt_trichotomy i j with hlt | heq | hlt
  · exact absurd (e1.trans e2.symm) (hp i j l1 l2 hlt)
  · exact heq
  · exact absurd (e2.trans e1.symm) (hp j i l2 l1 hlt)
section
variable {P : Program} {Q : Exit → Act → World → Prop} {K : Act → World → Prop} {a : Act} {w : World} {o : Oper} {n : Nat} {w0 : Bs} {fs : List Sl} {bs : List Bl}
theorem St.mem (hs : St n w0 fs bs a w) : Mem w0 bs w := ⟨hs.blks, hs.apart, hs.below, hs.fz⟩
theorem Mem.lt (h : Mem w0 bs w) {i : Nat} {e : Bl} (hi : bs[i]? = some e) (h1 : e.1 = true) : e.2.1 < w.heap.size := (Array.getElem?_eq_some_iff.1 (h.blks i e hi h1).1).1
theorem St.selB (hs : St n w0 fs bs a w) (kb : List Nat) {bs' : List Bl} (h : selL bs kb = some bs') (hnd : kb.Nodup) : St n w0 fs bs' a w := by
  have key := fun i e he => selL_get h i e he
  refine ⟨hs.size, hs.defers, hs.slots, fun i e he h1 => ?_, fun i j e e' hij he he' h1 h1' => ?_, hs.below, fun p hp => ⟨(hs.frz p hp).1, fun i e he h1 => ?_⟩, fun i e he h1 => ?_⟩
  · obtain ⟨k, _, hk⟩ := key i e he
    exact hs.blks k e hk h1
  · obtain ⟨k, h2, hk⟩ := key i e he
    obtain ⟨k', h2', hk'⟩ := key j e' he'
    exact hs.apart k k' e e' (fun e0 => hij (nd_ne hnd h2 (e0 ▸ h2'))) hk hk' h1 h1'
  · obtain ⟨k, _, hk⟩ := key i e he
    exact (hs.frz p hp).2 k e hk h1
  · refine Fz.ok_mono (fun _ _ h => h) (fun g hg _ => ⟨⟨hg.1, fun j b hj hb1 => ?_, hg.2.2⟩, rfl⟩) (hs.fz i e he h1)
    obtain ⟨k, _, hk⟩ := key j b hj
    exact hg.2.1 k b hk hb1
theorem enterX {f : FuncId} {fn : Func} {c : Code} {args : List Value} {w : World} {R : Ending → World → Prop} {n : Nat} {S : List (Bool × Fz)} {Z X : Nat → Prop} {bs : List Bl} (hf : P.funcs[f]? = some fn) (hb : fn.body = some c) (hn : fn.ntmps = n) (hle : args.length ≤ n)
    (hm : Mem ⟨w, [], S, Z, X⟩ bs w) (h : ∀ a, St n ⟨w, [], S, Z, X⟩ (idx 0 args) bs a w → c.wp P (bodyPost P fn R) a w) : Calls P f args.toArray w R := by
  refine calls_of_wp hf hb (h _ ⟨?_, rfl, ?_, hm.blks, hm.apart, hm.below, (fun p hp => nomatch hp), hm.fz⟩)
  · subst hn; simp; omega
  · intro t v h
    obtain ⟨_, h2⟩ := lk_idx args 0 t v h
    have hlt : t < args.length := (List.getElem?_eq_some_iff.1 h2).1
    rw [Array.getElem?_append_left (by simpa using hlt)]
    simpa using h2
def Xc (w0 : Bs) (bs : List Bl) (kb ks : List Nat) (g : Nat) : Prop :=
  (∃ j b, j ∈ kb ∧ bs[j]? = some b ∧ b.1 = true ∧ b.2.1 = g) ∨ ∃ j e, j ∈ ks ∧ w0.S[j]? = some e ∧ e.1 = true ∧ e.2.owns g
def Zc (w0 : Bs) (bs : List Bl) (kb ks : List Nat) (g : Nat) : Prop :=
  (w0.Z g ∨ w0.B g) ∧ (∀ (j : Nat) (b : Bl), bs[j]? = some b → b.1 = true → j ∉ kb → b.2.1 ≠ g) ∧ ∀ (j : Nat) (e : Bool × Fz), w0.S[j]? = some e → e.1 = true → j ∉ ks → ¬ e.2.owns g
theorem St.xlt (hs : St n w0 fs bs a w) {kb ks : List Nat} {g : Nat} (h : Xc w0 bs kb ks g) : g < w.heap.size ∧ w0.B g := by
  rcases h with ⟨j, b, _, hb, h1, rfl⟩ | ⟨j, e, _, he, h1, ho⟩
  · exact ⟨hs.lt hb h1, (hs.blks j b hb h1).2⟩
  · obtain ⟨l1, _, l3⟩ := Fz.ok_lt (hs.fz j e he h1) ho
    exact ⟨l1, l3⟩
theorem St.xblk (hs : St n w0 fs bs a w) {kb ks : List Nat} {i : Nat} {e : Bl} (hi : bs[i]? = some e) (h1 : e.1 = true) (hk : i ∉ kb) : ¬ Xc w0 bs kb ks e.2.1 := by
  rintro (⟨j, b, hj, hb, hb1, hg⟩ | ⟨j, x, hj, hx, hx1, ho⟩)
  · exact hs.apart j i b e (fun h => hk (h ▸ hj)) hb hi hb1 h1 hg
  · exact (Fz.ok_lt (hs.fz j x hx hx1) ho).2.1.2.1 i e hi h1 rfl
theorem xzs {kb ks : List Nat} {i g : Nat} (hz : Zs w0 bs i g) (hk : i ∉ ks) : ¬ Xc w0 bs kb ks g := by
  rintro (⟨j, b, hj, hb, hb1, hg⟩ | ⟨j, x, hj, hx, hx1, ho⟩)
  · exact hz.2.1 j b hb hb1 hg
  · exact hz.2.2 j x (fun h => hk (h ▸ hj)) hx hx1 ho
theorem St.toMem (hs : St n w0 fs bs a w) {kb ks : List Nat} {S1 : List (Bool × Fz)} {bs1 : List Bl} (hS1 : selL w0.S ks = some S1) (hb1 : selL bs kb = some bs1) (hnd : ks.Nodup) (hndb : kb.Nodup) :
    Mem ⟨w, [], S1, Zc w0 bs kb ks, Xc w0 bs kb ks⟩ bs1 w := by
  have keyS := fun i e he => selL_get hS1 i e he
  have keyB := fun i e he => selL_get hb1 i e he
  refine ⟨fun i e he h1 => ?_, fun i j e e' hij he he' h1 h1' => ?_, BelowX.refl _ _, fun i e he h1 => ?_⟩
  · obtain ⟨k, hk, hb⟩ := keyB i e he
    exact ⟨(hs.blks k e hb h1).1, .inr (.inl ⟨k, e, List.mem_of_getElem? hk, hb, h1, rfl⟩)⟩
  · obtain ⟨k, h2, hk⟩ := keyB i e he
    obtain ⟨k', h2', hk'⟩ := keyB j e' he'
    exact hs.apart k k' e e' (fun e0 => hij (nd_ne hndb h2 (e0 ▸ h2'))) hk hk' h1 h1'
  · obtain ⟨k, hk, hS⟩ := keyS i e he
    refine Fz.ok_mono (fun g ho _ => .inr (.inr ⟨k, e, List.mem_of_getElem? hk, hS, h1, ho⟩)) (fun g hg _ => ⟨⟨.inl ⟨hg.1, fun j b hj hb1 _ => hg.2.1 j b hj hb1, fun j x hj hx hjk => ?_⟩, fun j b hj hb1 => ?_, fun j x hji hj hx => ?_⟩, rfl⟩) (hs.fz k e hS h1)
    · exact hg.2.2 j x (fun e0 => hjk (e0 ▸ List.mem_of_getElem? hk)) hj hx
    · obtain ⟨k', _, hk'⟩ := keyB j b hj
      exact hg.2.1 k' b hk' hb1
    · obtain ⟨k', h2', hk'⟩ := keyS j x hj
      exact hg.2.2 k' x (fun e0 => hji (nd_ne hnd (e0 ▸ h2') hk)) hk' hx
theorem St.ofMem (hs : St n w0 fs bs a w) (hF : w0.F = []) {kb ks : List Nat} {E1 : List (Bool × Fz)} {E2 : List Fz} {bf bf2 : List Bl} {ms : Option Nat} {w' : World} (hE1 : ks.length = E1.length) (hbf : kb.length = bf.length) (hokS : okS ms (setAll w0.S ks E1) E2.length = true)
    (hm : Mem ⟨w, [], E1 ++ E2.map (true, ·), Zc w0 bs kb ks, Xc w0 bs kb ks⟩ (bf ++ bf2) w') :
    St n (w0.withS (putS ms (setAll w0.S ks E1) E2)) fs (setAll bs kb bf ++ bf2) a w' := by
  have hsz : w0.w.heap.size ≤ w.heap.size := hs.below.size
  have keyB : ∀ (i : Nat) (x : Bl), (setAll bs kb bf ++ bf2)[i]? = some x → (∃ p, (bf ++ bf2)[p]? = some x ∧ ((p < kb.length ∧ kb[p]? = some i) ∨ (kb.length ≤ p ∧ i = bs.length + (p - kb.length)))) ∨ (bs[i]? = some x ∧ i ∉ kb) := by
    intro i x hx
    rw [List.getElem?_append, setAll_length] at hx
    split at hx
    · rcases setAll_get kb bf bs hbf i x hx with ⟨p, h2, h3⟩ | h2
      · left
        have hp := (List.getElem?_eq_some_iff.1 h2).1
        exact ⟨p, by rw [List.getElem?_append_left (by omega)]; exact h3, .inl ⟨hp, h2⟩⟩
      · exact .inr h2
    · rename_i hge
      left
      refine ⟨kb.length + (i - bs.length), ?_, .inr ⟨by omega, by omega⟩⟩
      rw [List.getElem?_append_right (by omega), hbf, Nat.add_sub_cancel_left]
      exact hx
  obtain ⟨k0, pkey⟩ := putS_get hokS
  have keyS : ∀ (i : Nat) (x : Bool × Fz), (putS ms (setAll w0.S ks E1) E2)[i]? = some x → x.1 = true → (∃ p, (E1 ++ E2.map (true, ·))[p]? = some x ∧ ((p < ks.length ∧ ks[p]? = some i) ∨ (ks.length ≤ p ∧ i = k0 + (p - ks.length)))) ∨ (w0.S[i]? = some x ∧ i ∉ ks) := by
    intro i x hx h1
    rcases pkey i x hx with ⟨hki, _, hl⟩ | ⟨hS, _⟩
    · left
      refine ⟨ks.length + (i - k0), ?_, .inr ⟨by omega, by omega⟩⟩
      rw [List.getElem?_append_right (by omega), hE1, Nat.add_sub_cancel_left, List.getElem?_map, hl]
      obtain ⟨b, e⟩ := x
      simp only at h1
      subst h1
      rfl
    · rcases setAll_get ks E1 w0.S hE1 i x hS with ⟨p, h2, h3⟩ | h2
      · left
        have hp := (List.getElem?_eq_some_iff.1 h2).1
        exact ⟨p, by rw [List.getElem?_append_left (by omega)]; exact h3, .inl ⟨hp, h2⟩⟩
      · exact .inr h2
  have upB : ∀ g, Bn w.heap.size (Xc w0 bs kb ks) g → w0.B g := by
    rintro g (h | h)
    · exact .inl (Nat.le_trans hsz h)
    · exact (hs.xlt h).2
  have newne : ∀ g g', Bn w.heap.size (Xc w0 bs kb ks) g → g' < w.heap.size → ¬ Xc w0 bs kb ks g' → g ≠ g' := by
    rintro g g' (h | h) hlt hx rfl
    · omega
    · exact hx h
  refine ⟨hs.size, hs.defers, hs.slots, fun i e he h1 => ?_, fun i j e e' hij he he' h1 h1' => ?_, ?_, (fun p hp => by rw [hF] at hp; cases hp), fun i e he h1 => ?_⟩
  · rcases keyB i e he with ⟨p, hp, _⟩ | ⟨hb, hk⟩
    · exact ⟨(hm.blks p e hp h1).1, upB _ (hm.blks p e hp h1).2⟩
    · exact ⟨(hm.below.block _ (hs.lt hb h1) (hs.xblk hb h1 hk)).trans (hs.blks i e hb h1).1, (hs.blks i e hb h1).2⟩
  · rcases keyB i e he with ⟨p, hp, h2⟩ | ⟨hb, hk⟩ <;> rcases keyB j e' he' with ⟨q, hq, h3⟩ | ⟨hb', hk'⟩
    · refine hm.apart p q e e' (fun e0 => hij ?_) hp hq h1 h1'
      subst e0
      rcases h2 with ⟨h2, h4⟩ | ⟨h2, h4⟩ <;> rcases h3 with ⟨h3, h5⟩ | ⟨h3, h5⟩
      · rw [h4] at h5; exact Option.some.inj h5
      · omega
      · omega
      · omega
    · exact newne _ _ (hm.blks p e hp h1).2 (hs.lt hb' h1') (hs.xblk hb' h1' hk')
    · exact (newne _ _ (hm.blks q e' hq h1').2 (hs.lt hb h1) (hs.xblk hb h1 hk)).symm
    · exact hs.apart i j e e' hij hb hb' h1 h1'
  · refine hs.below.trans ⟨hm.below.os, hm.below.tape, hm.below.output, hm.below.size, fun k hk hx => hm.below.block k (Nat.lt_of_lt_of_le hk hsz) fun hX => ?_⟩
    rcases (hs.xlt hX).2 with h | h
    · have h' : w0.w.heap.size ≤ k := h
      omega
    · exact hx h
  · rcases keyS i e he h1 with ⟨p, hp, hpi⟩ | ⟨hS, hk⟩
    · refine Fz.ok_mono (fun g _ h => upB g h) (fun g hg _ => ⟨⟨?_, fun j b hj hb1 => ?_, fun j x hji hj hx => ?_⟩, rfl⟩) (hm.fz p e hp h1)
      · rcases hg.1 with h | h
        · exact h.1
        · exact .inr (upB g h)
      · rcases keyB j b hj with ⟨q, hq, _⟩ | ⟨hb, hkb⟩
        · exact hg.2.1 q b hq hb1
        · rcases hg.1 with h | h
          · exact h.2.1 j b hb hb1 hkb
          · exact (newne _ _ h (hs.lt hb hb1) (hs.xblk hb hb1 hkb)).symm
      · rcases keyS j x hj hx with ⟨q, hq, hqj⟩ | ⟨hSj, hkj⟩
        · refine hg.2.2 q x (fun e0 => hji ?_) hq hx
          subst e0
          rcases hpi with ⟨h2, h3⟩ | ⟨h2, h3⟩ <;> rcases hqj with ⟨h4, h5⟩ | ⟨h4, h5⟩
          · rw [h3] at h5; exact (Option.some.inj h5).symm
          · omega
          · omega
          · omega
        · rcases hg.1 with h | h
          · exact h.2.2 j x hSj hx hkj
          · intro ho
            obtain ⟨l1, l2, _⟩ := Fz.ok_lt (hs.fz j x hSj hx) ho
            exact newne _ _ h l1 (xzs l2 hkj) rfl
    · refine Fz.ok_mono (fun _ _ h => h) (fun g hg hlt => ⟨⟨hg.1, fun j b hj hb1 => ?_, fun j x hji hj hx => ?_⟩, hm.below.block g hlt (xzs hg hk)⟩) (hs.fz i e hS h1)
      · rcases keyB j b hj with ⟨q, hq, _⟩ | ⟨hb, hkb⟩
        · exact newne _ _ (hm.blks q b hq hb1).2 hlt (xzs hg hk)
        · exact hg.2.1 j b hb hb1
      · rcases keyS j x hj hx with ⟨q, hq, hqj⟩ | ⟨hSj, _⟩
        · intro ho
          exact newne _ _ (Fz.ok_lt (hm.fz q x hq hx) ho).2.2 hlt (xzs hg hk) rfl
        · exact hg.2.2 j x hji hSj hx
theorem op_callX {F : FuncId} {ρ : Type} (hs : St n w0 fs bs a w) (m ms : Option Nat) (kb ks : List Nat) {f : Operand} {xs : Array Operand} {ts : Array TypeId} {vs : List Value} {v : ρ → Value} {S1 : List (Bool × Fz)} {bs1 : List Bl} {E : ρ → List (Bool × Fz)} {E1 : ρ → List (Bool × Fz)} {E2 : ρ → List Fz} {bfA bf bf2 : ρ → List Bl} {d : Nat}
    (hF : w0.F = []) (ho : o.op = .call ⟨.value f, xs, ts⟩) (hd : o.dst = some d)
    (hf : ev fs f = some (.func (.func F) #[] #[])) (hx : evs fs xs.toList = some vs) (hcl : ∀ w, (callFunc F vs.toArray).run P w = .ok (.enter F vs.toArray) w)
    (hS1 : selL w0.S ks = some S1) (hb1 : selL bs kb = some bs1) (hnd : ks.Nodup) (hndb : kb.Nodup)
    (hc : ∀ Z X, Mem ⟨w, [], S1, Z, X⟩ bs1 w → Calls P F vs.toArray w (PostX w Z X v bfA E)) (hE : ∀ r, E r = E1 r ++ (E2 r).map (true, ·)) (hbA : ∀ r, bfA r = bf r ++ bf2 r) (hE1 : ∀ r, ks.length = (E1 r).length) (hbf : ∀ r, kb.length = (bf r).length)
    (hokS : ∀ r, okS ms (setAll w0.S ks (E1 r)) (E2 r).length = true) (hok : okf m fs d n = true)
    (h : ∀ r a' w', St n (w0.withS (putS ms (setAll w0.S ks (E1 r)) (E2 r))) (putf m fs d (v r)) (setAll bs kb (bf r) ++ bf2 r) a' w' → K a' w') : o.wp P a w K Q := by
  have hm : xs.map a.eval = vs.toArray := by
    have := hs.evs hx
    rw [← this, ← Array.toList_map]
  unfold Oper.wp execOp
  rw [ho]
  simp only [resolve, hs.ev hf, hm, Deferred.ofValue, Sem.run_bind, Sem.run_pure, Result.andThen_ok, invoke, Array.empty_append, Array.append_empty, hcl, Oper.upon_enter, hd]
  refine (hc _ _ (hs.toMem hS1 hb1 hnd hndb)).mono ?_
  rintro e w' ⟨r, rfl, hL⟩
  rw [hE, hbA] at hL
  exact h _ _ _ ((hs.ofMem hF (hE1 r) (hbf r) (hokS r) hL).put hok _)
theorem okl1z {w : World} {Z : Nat → Prop} {B : Nat → Prop} {e : Fz} (h : e.ok w (fun g => Z g ∨ B g) B) : OkL w Z B [e] := by
  intro i e' he
  cases i with
  | zero =>
    obtain rfl : e = e' := by simpa using he
    exact Fz.ok_mono (fun _ _ h => h) (fun g hg _ => ⟨⟨hg, fun j e' hj he' => by
      cases j with
      | zero => exact absurd rfl hj
      | succ j => simp at he'⟩, rfl⟩) h
  | succ i => simp at he
def GU (G : Nat → Prop) (v : Value) (g : Nat) : Prop := G g ∨ v.ownBlock = some g
end
end Go.Proofs.YtejbajgpiecjcaaGreat

/- More operations: bits of numbers, pointers, parts of rows with a room of their own, stores into rows of one's own, rows of integers beside the blocks. -/
namespace Go.Proofs.YtejbajgpiecjcaaGreat
open Go.RowKit
section
variable {P : Program} {k : IntKind} {T : TypeId} {x y z : Nat}
theorem bin_xorN (h : x ^^^ y = z) (hx : x < 2 ^ k.bits) (hy : y < 2 ^ k.bits) (hb : z < lid k) (w : World) : (binOp .xor T (.int k (x : Int)) (.int k (y : Int))).run P w = .ok (.int k (z : Int)) w := by
  have e : ((BitVec.ofInt k.bits (x : Int)) ^^^ (BitVec.ofInt k.bits (y : Int))).toNat = z := by
    rw [BitVec.toNat_xor, ofInt_nat _ _ hx, ofInt_nat _ _ hy, h]
  simp only [binOp, Op.intBits, e, wrapN hb]
  simp
theorem bin_shlZ {yk : IntKind} (h : x * 2 ^ y = z) (hy : y ≤ k.bits) (hb : z < lid k) (w : World) : (binOp .shl T (.int k (x : Int)) (.int yk (y : Int))).run P w = .ok (.int k (z : Int)) w := by
  have e : k.wrap ((x : Int) * 2 ^ (min y k.bits)) = (z : Int) := by
    rw [Nat.min_eq_left hy]
    have e1 : (x : Int) * 2 ^ y = ((x * 2 ^ y : Nat) : Int) := by simp
    rw [e1, h, wrapN hb]
  have hn : ¬ ((y : Int) < 0) := by omega
  simp [binOp, Op.shift, hn, e]
theorem un_not32 (hx : x < 4294967296) (w : World) : (Op.unary .xor (.int .u32 (x : Int))).run P w = .ok (.int .u32 ((4294967295 - x : Nat) : Int)) w := by
  have e1 : (BitVec.ofInt IntKind.u32.bits (IntKind.u32.max) ^^^ BitVec.ofInt IntKind.u32.bits (x : Int)).toNat = 4294967295 - x := by
    show (BitVec.ofInt 32 (IntKind.u32.max) ^^^ BitVec.ofInt 32 (x : Int)).toNat = 4294967295 - x
    have hm : BitVec.ofInt 32 (IntKind.u32.max) = BitVec.allOnes 32 := by decide
    rw [hm, BitVec.allOnes_xor, BitVec.toNat_not, ofInt_nat _ _ hx]
  have e2 : IntKind.u32.wrap (((4294967295 - x : Nat) : Int)) = ((4294967295 - x : Nat) : Int) := wrapN (by simp only [lid]; omega)
  simp only [Op.unary, Op.intBits, show IntKind.u32.signed = false from rfl, Bool.false_eq_true, if_false, e1, e2]
  rfl
theorem bin_subI {x y z : Int} (h : x - y = z) (h1 : -9223372036854775808 ≤ z) (h2 : z < 9223372036854775808) (w : World) : (binOp .sub T (.int .i64 x) (.int .i64 y)).run P w = .ok (.int .i64 z) w := by
  have e : IntKind.i64.wrap (x - y) = z := by rw [h]; simp [IntKind.wrap, IntKind.bits, IntKind.signed]; omega
  simp [binOp, Op.intArith, e]
theorem conv_neg64 {S D : TypeId} {n : Nat} (hs : P.underlying S = some (.int .i64)) (hd : P.underlying D = some (.int .u64)) (h1 : 0 < n) (h2 : n ≤ 9223372036854775808) (w : World) : (convert S D (.int .i64 (-(n : Int)))).run P w = .ok (.int .u64 ((18446744073709551616 - n : Nat) : Int)) w := by
  have e : IntKind.u64.wrap (-(n : Int)) = ((18446744073709551616 - n : Nat) : Int) := by simp [IntKind.wrap, IntKind.bits, IntKind.signed]; omega
  simp [convert, run_underlying hs, run_underlying hd, Sem.run_bind, Result.andThen, Conv.intToInt, e]
theorem and31 {n : Nat} (h1 : 0 < n) (h2 : n < 32) : (18446744073709551616 - n) &&& 31 = 32 - n := by
  rw [show (31 : Nat) = 2 ^ 5 - 1 from rfl, Nat.and_two_pow_sub_one_eq_mod]
  omega
theorem bin_eqlP0 {p : Addr} {T E : TypeId} (hu : P.underlying T = some (.pointer E)) (w : World) : (binOp .eql T (.pointer (some p)) (.pointer none)).run P w = .ok (.bool false) w := by
  have h0 : ∀ d, (Op.equalIn (d + 1) T (.pointer (some p)) (.pointer none)).run P w = .ok false w := by
    intro d
    simp [Op.equalIn, run_underlying hu]
  have h := h0 9999
  simp only [binOp, Sem.run_bind, Op.equal, Op.maxDepth]
  rw [h]
  rfl
end
section
variable {P : Program} {Q : Exit → Act → World → Prop} {K : Act → World → Prop} {a : Act} {w : World} {o : Oper} {n : Nat} {w0 : Bs} {fs : List Sl} {bs : List Bl}
theorem op_nilCheck (hs : St n w0 fs bs a w) (m : Option Nat) {x : Operand} {p : Addr} {d : Nat} (ho : o.op = .nilCheck x) (hd : o.dst = some d) (hx : ev fs x = some (.pointer (some p))) (hok : okf m fs d n = true)
    (h : ∀ a', St n w0 (putf m fs d (.pointer (some p))) bs a' w → K a' w) : o.wp P a w K Q :=
  op_val hs m hd hok (by unfold execOp; rw [ho]; simp only [hs.ev hx]; rfl) h
theorem op_slice3 (hs : St n w0 fs bs a w) (m ms : Option Nat) (k i h c2 : Nat) {T E : TypeId} {x : Operand} {lo : Option Operand} {hi mx : Operand} {κ κ' : IntKind} {ad : Option Addr} {N c z : Nat} {cs : List Value} {d : Nat} (ho : o.op = .slice T x lo (some hi) (some mx)) (hd : o.dst = some d) (hx : ev fs x = some (.slice ad N c))
    (hk : w0.S[k]? = some (true, .cel (.slice ad N c) N cs)) (hlo : lo = none ∧ i = 0 ∨ ∃ y κ, lo = some y ∧ ev fs y = some (.int κ (i : Int))) (hhi : ev fs hi = some (.int κ (h : Int))) (hmx : ev fs mx = some (.int κ' (c2 : Int)))
    (hu : P.underlying T = some (.slice E)) (hz : ∀ w, (sizeOf E).run P w = .ok z w) (h1 : i ≤ h) (h2 : h ≤ N) (h3 : h ≤ c2) (h4 : c2 ≤ N) (hokS : okS ms w0.S 1 = true) (hok : okf m fs d n = true)
    (hK : ∀ a', St n (w0.withS (putS ms w0.S [.cel (.slice (vsa ad c2 z i) (h - i) (c2 - i)) (h - i) ((cs.drop (i * z)).take ((h - i) * z))])) (putf m fs d (.slice (vsa ad c2 z i) (h - i) (c2 - i))) bs a' w → K a' w) : o.wp P a w K Q := by
  have hall := hs.all hk rfl
  have hpart : CelV w (Zall w0 bs) (.slice (vsa ad c2 z i) (h - i) (c2 - i)) (h - i) ((cs.drop (i * z)).take ((h - i) * z)) := by
    obtain ⟨ad', c', e, hN, hc, hn, hcs⟩ := hall
    obtain ⟨rfl, rfl⟩ : ad = ad' ∧ c = c' := by simpa using e
    refine ⟨_, _, rfl, by omega, by omega, ?_, fun j u hu => ?_⟩
    · intro h0
      unfold vsa at h0
      split at h0
      · have := hn h0; omega
      · cases ad with
        | none => have := hn rfl; omega
        | some _ => cases h0
    · rw [List.getElem?_take] at hu
      split at hu
      · rename_i hj
        rw [List.getElem?_drop] at hu
        obtain ⟨g, off, rfl, hg, hcell⟩ := hcs _ u hu
        have hne : ¬ c2 = i := by
          intro hci
          have : h - i = 0 := by omega
          rw [this, Nat.zero_mul] at hj
          omega
        refine ⟨g, off + i * z, ?_, hg, ?_⟩
        · unfold vsa; rw [if_neg hne]; simp [Addr.add_mid]
        · rw [Nat.add_assoc]; exact hcell
      · cases hu
  have hc : N ≤ c := by
    obtain ⟨ad', c', e, hN, _⟩ := hall
    obtain ⟨rfl, rfl⟩ : ad = ad' ∧ c = c' := by simpa using e
    exact hN
  have hs' := hs.pushS ms (L := [.cel (.slice (vsa ad c2 z i) (h - i) (c2 - i)) (h - i) ((cs.drop (i * z)).take ((h - i) * z))]) hokS (okl1 hpart)
  refine op_val hs' m hd hok ?_ hK
  unfold execOp
  rw [ho]
  have e1 : (0 : Int) ≤ (h : Int) ∧ (h : Int) ≤ (c2 : Int) := ⟨by omega, by omega⟩
  have e2 : (0 : Int) ≤ (i : Int) ∧ (i : Int) ≤ (h : Int) := ⟨by omega, by omega⟩
  have e3 : (0 : Int) ≤ (c2 : Int) ∧ (c2 : Int) ≤ (c : Int) := ⟨by omega, by omega⟩
  have e4 : c2 ≤ c := by omega
  have e5 : h ≤ c2 := h3
  rcases hlo with ⟨rfl, rfl⟩ | ⟨y, κ2, rfl, hy⟩
  · simp [hs.ev hx, hs.ev hhi, hs.ev hmx, Instr.sliceAt, Instr.slice, Instr.sliceBounds, Instr.sliceBound, asIntOf, Sem.run_bind, run_underlying hu, Result.andThen, hz, e1, e3, e4, e5, vsa]
  · simp [hs.ev hx, hs.ev hhi, hs.ev hmx, hs.ev hy, Instr.sliceAt, Instr.slice, Instr.sliceBounds, Instr.sliceBound, asIntOf, Sem.run_bind, run_underlying hu, Result.andThen, hz, e1, e2, e3, e4, e5, h1, vsa]
theorem op_slice3B (hs : St n w0 fs bs a w) (m ms : Option Nat) (k N : Nat) {T E : TypeId} {x : Operand} {hi mx : Operand} {κ κ' : IntKind} {ad : Option Addr} {c : Nat} {l : List UInt8} {d : Nat} (ho : o.op = .slice T x none (some hi) (some mx)) (hd : o.dst = some d) (hx : ev fs x = some (.slice ad N c))
    (hk : w0.S[k]? = some (true, .cel (.slice ad N c) N (bcs l))) (hhi : ev fs hi = some (.int κ (N : Int))) (hmx : ev fs mx = some (.int κ' (N : Int)))
    (hu : P.underlying T = some (.slice E)) (hz : ∀ w, (sizeOf E).run P w = .ok 1 w) (hokS : okS ms w0.S 1 = true) (hok : okf m fs d n = true) (hN : N = l.length)
    (hK : ∀ a', St n (w0.withS (putS ms w0.S [.cel (.slice (vsa ad N 1 0) (N - 0) (N - 0)) (N - 0) (bcs l)])) (putf m fs d (.slice (vsa ad N 1 0) (N - 0) (N - 0))) bs a' w → K a' w) : o.wp P a w K Q := by
  refine op_slice3 hs m ms k 0 N N ho hd hx hk (.inl ⟨rfl, rfl⟩) hhi hmx hu hz (Nat.zero_le _) (Nat.le_refl _) (Nat.le_refl _) (Nat.le_refl _) hokS hok ?_
  have e : ((bcs l).drop (0 * 1)).take ((N - 0) * 1) = bcs l := by
    rw [bcs_part, hN]; simp
  rw [e]
  exact hK
theorem op_appF (hs : St n w0 fs bs a w) (m ms : Option Nat) (k k2 : Nat) {x y : Operand} {T E : TypeId} {z : Value} {size bytes N M c2 : Nat} {ad ad2 : Option Addr} {xs cs : List Value} {d : Nat}
    (ho : o.op = .call ⟨.builtin .append, #[x, y], #[T, T]⟩) (hd : o.dst = some d) (hx : ev fs x = some (.slice ad N N)) (hy : ev fs y = some (.slice ad2 M c2)) (hk : w0.S[k]? = some (true, .cel (.slice ad N N) N xs)) (hk2 : rowAt w0.S k2 = some (.slice ad2 M c2, M, cs))
    (hu : P.underlying T = some (.slice E)) (hi : Inf P E z size bytes) (hzs : z.cells.size = size) (hs0 : 0 < size) (hxl : xs.length = N * size) (hcl : cs.length = M * size) (h1 : ∀ u ∈ cs, u.oneCell' = true) (hby : bytes ≤ 64) (hl : N + M ≤ 1000000) {N' : Nat} {ys : List Value} (hN : N + M = N') (hys : xs ++ cs = ys) (hokS : okS ms w0.S 1 = true) (hok : okf m fs d n = true)
    (h : ∀ a' c' act w', St n (w0.withS (putS ms w0.S [.cel (.slice a' N' c') N' ys])) (putf m fs d (.slice a' N' c')) bs act w' → K act w') : o.wp P a w K Q := by
  subst hN; subst hys
  obtain ⟨i, hi, hz, hs1, hb1⟩ := hi
  subst hs1
  have hmax : (1000001 : Nat) ≤ maxLen := by decide
  have hall := hs.all hk rfl
  obtain ⟨ad', c', e, _, hcm, hn0, hcells⟩ := hall
  obtain ⟨rfl, rfl⟩ : ad = ad' ∧ N = c' := by simpa using e
  have hm : (#[x, y] : Array Operand).map a.eval = #[.slice ad N N, .slice ad2 M c2] := by simp [hs.ev hx, hs.ev hy]
  obtain ⟨ad2', c2', e2, _, hcm2, hn2, hcells2⟩ := hs.row hk2
  obtain ⟨rfl, rfl⟩ : ad2 = ad2' ∧ c2 = c2' := by simpa using e2
  have hnews : ∀ p, ad2 = some p → ∀ (j : Nat) (u : Value), cs[j]? = some u → w.cell? (p.add j) = some u := by
    intro p hp j u hu
    obtain ⟨g, off, e3, _, hc⟩ := hcells2 j u hu
    obtain rfl : p = ⟨g, off, none⟩ := by rw [hp] at e3; simpa using e3
    rw [Addr.add_mid]; exact hc
  have holds : ∀ p, ad = some p → ∀ (j : Nat) (u : Value), xs[j]? = some u → w.cell? (p.add j) = some u := by
    intro p hp j u hu
    obtain ⟨g, off, e3, _, hc⟩ := hcells j u hu
    obtain rfl : p = ⟨g, off, none⟩ := by rw [hp] at e3; simpa using e3
    rw [Addr.add_mid]; exact hc
  unfold Oper.wp execOp
  rw [ho]
  simp only [resolve, hm, Sem.run_bind, Sem.run_pure, Result.andThen_ok, invoke, builtin]
  by_cases hM : M = 0
  · subst hM
    have hcs : cs = [] := by simpa using hcl
    subst hcs
    have hrun : (Builtin.append_ #[T, T] o.type #[.slice ad N N, .slice ad2 0 c2]).run P w = .ok (.slice ad N N) w := by
      cases ad <;> cases ad2 <;> simp [Builtin.append_, run_underlying hu, sizeOf, typeInfo, hi, Builtin.lenOf, Builtin.firstCells, storeCells, loadCells, loadCellsFrom]
    rw [hrun]
    simp only [Result.andThen_ok, Sem.run_pure, Oper.upon_value, hd]
    have := hs.pushS ms (L := [.cel (.slice ad (N + 0) N) (N + 0) (xs ++ [])]) hokS (okl1 (by
      rw [List.append_nil, Nat.add_zero]
      exact ⟨ad, N, rfl, Nat.le_refl _, hcm, hn0, hcells⟩))
    exact h ad N _ _ (this.put hok _)
  · have hp2 : ∃ p, ad2 = some p := by
      cases ad2 with
      | none => have := hn2 rfl; omega
      | some p => exact ⟨p, rfl⟩
    obtain ⟨p2, rfl⟩ := hp2
    have hbt : (N + M) * i.bytes ≤ 140737488355328 := by
      have : (N + M) * i.bytes ≤ 1000000 * 64 := Nat.mul_le_mul hl (by rw [hb1]; exact hby)
      omega
    have fin : ∀ (c' : Nat) (rest : List Value), N + M ≤ c' → c' ≤ maxLen →
        St n (w0.withS (putS ms w0.S [.cel (.slice (some ⟨w.heap.size, 0, none⟩) (N + M) c') (N + M) (xs ++ cs)])) fs bs a (w.drew.alloc (.cells (xs.toArray ++ cs.toArray ++ rest.toArray) E)) := by
      intro c' rest hle hcm'
      have hbl : Below w.heap.size w (w.drew.alloc (.cells (xs.toArray ++ cs.toArray ++ rest.toArray) E)) := (Below.refl w.heap.size w).drew.alloc (Nat.le_refl _) _
      refine hs.addS hokS hbl (okl1z (e := .cel _ _ _) ⟨_, _, rfl, hle, hcm', (fun h => by cases h), fun j u hu => ⟨w.heap.size, 0, rfl, .inr (.inl (Nat.le_refl _)), ?_⟩⟩)
      have hat : (w.drew.alloc (.cells (xs.toArray ++ cs.toArray ++ rest.toArray) E)).heap[w.heap.size]? = some (.cells (xs.toArray ++ cs.toArray ++ rest.toArray) E (0, 0)) := heap_alloc_new w.drew _
      rw [Nat.zero_add, cell_of_row _ w.heap.size j _ E _ hat]
      have hlt := (List.getElem?_eq_some_iff.1 hu).1
      rw [← hu]
      have : xs.toArray ++ cs.toArray ++ rest.toArray = (xs ++ cs ++ rest).toArray := by simp
      rw [this]
      simp only [List.getElem?_toArray]
      rw [List.getElem?_append_left hlt]
    cases ad with
    | none =>
      have hN0 : N = 0 := hn0 rfl
      subst hN0
      have hx0 : xs = [] := by simpa using hxl
      subst hx0
      have hr := run_append_nil (P := P) (w := w) T o.type E i z hu hi hz p2 M c2 cs hcl (hnews p2 rfl) (by omega) (by omega) (by rw [Nat.zero_add] at hbt; omega)
      rw [hr]
      simp only [Result.andThen_ok, Sem.run_pure, Oper.upon_value, hd]
      have hf := fin (grownCap w M 0 E) (Builtin.zeroCells z.cells (grownCap w M 0 E - M)).toList (by rw [Nat.zero_add]; exact grownCap_ge w M 0 E) (grownCap_le_maxLen w M 0 E (by omega))
      simp only [Array.toArray_toList, Nat.zero_add, List.nil_append, Array.empty_append] at hf ⊢
      have h' := h (some ⟨w.heap.size, 0, none⟩) (grownCap w M 0 E)
      simp only [Nat.zero_add, List.nil_append] at h'
      exact h' _ _ (hf.put hok _)
    | some p1 =>
      have hr := run_append_grow (P := P) (w := w) T o.type E i z hu hi hz p1 N N xs hxl (holds p1 rfl) p2 M c2 cs hcl (hnews p2 rfl) (by omega) (by omega) (growslice_fits (by omega) hbt)
      rw [hr]
      simp only [Result.andThen_ok, Sem.run_pure, Oper.upon_value, hd]
      have hf := fin (grownCap w (N + M) N E) (Builtin.zeroCells z.cells (grownCap w (N + M) N E - (N + M))).toList (grownCap_ge w (N + M) N E) (grownCap_le_maxLen w (N + M) N E (by omega))
      simp only [Array.toArray_toList] at hf
      exact h _ _ _ _ (hf.put hok _)
theorem op_storeO (hs : St n w0 fs bs a w) (k : Nat) {t : TypeId} {x y : Operand} {v u : Value} {E : TypeId} {N j : Nat} {xs xs' : List Value} (hF : w0.F = []) (ho : o.op = .store t x y) (hd : o.dst = none)
    (hx : ev fs x = some (vidx v j)) (hy : ev fs y = some u) (hk : w0.S[k]? = some (true, .own v E 1 N xs)) (hj : j < N) (hz : ∀ w, (sizeOf t).run P w = .ok 1 w) (hu : u.cells = #[u]) (h1 : u.oneCell' = true) (hxs : xs.set j u = xs')
    (h : ∀ w', St n (w0.withS (w0.S.set k (true, .own v E 1 N xs'))) fs bs a w' → K a w') : o.wp P a w K Q := by
  subst hxs
  have hok := hs.fz k _ hk rfl
  rcases hok.1.2 with ⟨rfl, h0⟩ | ⟨g, cap, cur, rfl, _, hblk, hN, hcm, hcs, htk⟩
  · omega
  have hx' : a.eval x = .pointer (some ⟨g, j, none⟩) := by rw [hs.ev hx]; simp [vidx, Addr.add_mid]
  have hlen := hok.1.1
  have hjc : j < cur.size := by omega
  have hblk' : w.heap[g]? = some (.cells cur.toList.toArray E (0, 0)) := by simpa using hblk
  have hrun : (Instr.storeAt t (.pointer (some ⟨g, j, none⟩)) u).run P w = .ok () (w.setCells g j [u]) := by
    have := run_storeCells_cells (P := P) g j [u] 0 w (fun q hq => by
      have : q = 0 := by simpa using hq
      subst this
      simp only [Nat.add_zero]
      rw [cell_of_row w g j cur E _ hblk]
      simp [hjc]) (fun q hq => frozen_of_row w g _ _ E hblk) (fun v hv => by obtain rfl := List.mem_singleton.1 hv; exact h1)
    simp only [Nat.add_zero] at this
    simp only [Instr.storeAt, Instr.sureAddr, Sem.run_bind, Sem.run_pure, Result.andThen_ok, storeVar, hz, hu]
    simpa using this
  have hZB := hok.2 g rfl
  unfold Oper.wp execOp
  rw [ho]
  simp only [hx', hs.ev hy, Sem.run_bind, hrun, Result.andThen_ok, Sem.run_pure, Oper.upon_skip, hd]
  obtain ⟨r1, r2, r3, r4⟩ := setCells_rest g [u] j w
  have key : ∀ (q : Nat) (e : Bool × Fz), (w0.S.set k (true, .own (.slice (some ⟨g, 0, none⟩) N cap) E 1 N (xs.set j u)))[q]? = some e → (q = k ∧ e = (true, .own (.slice (some ⟨g, 0, none⟩) N cap) E 1 N (xs.set j u))) ∨ (q ≠ k ∧ w0.S[q]? = some e) := by
    intro q e he
    rw [List.getElem?_set] at he
    split at he
    · rename_i hqk
      split at he
      · exact .inl ⟨hqk.symm, by simpa using he.symm⟩
      · cases he
    · rename_i hqk; exact .inr ⟨fun e => hqk e.symm, he⟩
  have zup : ∀ i g', Zs w0 bs i g' → Zs (w0.withS (w0.S.set k (true, .own (.slice (some ⟨g, 0, none⟩) N cap) E 1 N (xs.set j u)))) bs i g' := fun i g' hg => ⟨hg.1, hg.2.1, fun q e hqi hq he ho' => by
    rcases key q e hq with ⟨rfl, rfl⟩ | ⟨_, h3⟩
    · exact hg.2.2 q _ hqi hk rfl ho'
    · exact hg.2.2 q e hqi h3 he ho'⟩
  refine h _ ⟨hs.size, hs.defers, hs.slots, fun q e he he1 => ?_, hs.apart, ?_, (fun p hp => by rw [hF] at hp; cases hp), fun q e he he1 => ?_⟩
  · have hne : e.2.1 ≠ g := hZB.1.2.1 q e he he1
    exact ⟨(heap_setCells_far g _ hne _ _ w).trans (hs.blks q e he he1).1, (hs.blks q e he he1).2⟩
  · refine hs.below.trans ⟨r1, r2, r3, by rw [r4]; exact Nat.le_refl _, fun p hp hpx => heap_setCells_far g p (fun e => ?_) _ _ w⟩
    subst e
    rcases hZB.2 with hB | hB
    · have h' : w0.w.heap.size ≤ p := hB
      omega
    · exact hpx hB
  · rcases key q e he with ⟨rfl, rfl⟩ | ⟨hqk, he0⟩
    · refine ⟨⟨by simp [hlen], .inr ⟨g, cap, (cur.toList.set j u).toArray, rfl, Nat.zero_le _, heap_setCells_at g E [u] j w cur.toList hblk', hN, hcm, by simp [hcs], ?_⟩⟩, fun g' hg' => ?_⟩
      · rw [← htk, List.take_set]
      · have : g = g' := by simpa [Value.ownBlock] using hg'
        subst this
        exact ⟨zup _ _ hZB.1, hZB.2⟩
    · refine Fz.ok_mono (fun _ _ h => h) (fun g' hg' _ => ⟨zup _ _ hg', heap_setCells_far g g' (fun e => ?_) _ _ w⟩) (hs.fz q e he0 he1)
      subst e
      exact hg'.2.2 k _ (fun e => hqk e.symm) hk rfl rfl
theorem ldv_tabs {κ : IntKind} {n : Nat} {f : Nat → Nat} {sp : List Value} : ldv true n (tab κ n f ++ sp) 0 = some (At κ n f) := by
  unfold ldv
  rw [show Nat.ble (0 + n) (tab κ n f ++ sp).length = true from Nat.ble_eq_true_of_le (by rw [List.length_append, tab_length]; omega)]
  simp only [cond_true, List.drop_zero]
  rw [List.take_left' (tab_length κ n f)]
theorem tab_ext {κ : IntKind} {n : Nat} {f g : Nat → Nat} (h : ∀ j, j < n → f j = g j) : tab κ n f = tab κ n g := by
  apply List.ext_getElem?
  intro j
  by_cases hj : j < n
  · rw [tab_get hj, tab_get hj, h j hj]
  · rw [List.getElem?_eq_none (by rw [tab_length]; omega), List.getElem?_eq_none (by rw [tab_length]; omega)]
theorem tabs_ext {κ : IntKind} {n : Nat} {f g : Nat → Nat} {sp : List Value} (h : ∀ j, j < n → f j = g j) : tab κ n f ++ sp = tab κ n g ++ sp := by rw [tab_ext h]
theorem run_convSB (w : World) {T U E : TypeId} {l : List UInt8} (hS : P.underlying T = some .string) (hD : P.underlying U = some (.slice E)) (hE : P.underlying E = some (.int .u8)) (hl : l.length ≤ 1000000) :
    ∃ g c ob w', (convert T U (.string (txt l))).run P w = .ok (.slice (some ⟨g, 0, none⟩) l.length c) w' ∧ w.heap.size ≤ g ∧ l.length ≤ c ∧ c ≤ maxLen ∧ w'.heap[g]? = some ob ∧ Below w.heap.size w w' ∧ ∀ j, j < l.length → w'.cell? ⟨g, j, none⟩ = some (.int .u8 (byt l j : Int)) := by
  have hsz : (txt l).size = l.length := rfl
  have hmax : (1000001 : Nat) ≤ maxLen := by decide
  rw [run_bytes_of_string w T U E (txt l) hS hD hE]
  generalize hob : Obj.cells (bytesRow (txt l) (grownCap w (txt l).size 0 E)) E ((bytesRow (txt l) (grownCap w (txt l).size 0 E)).size, (bytesRow (txt l) (grownCap w (txt l).size 0 E)).size + 1) = ob
  have hat : (w.drew.alloc ob).heap[w.heap.size]? = some ob := heap_alloc_new w.drew ob
  refine ⟨w.heap.size, grownCap w (txt l).size 0 E, ob, w.drew.alloc ob, rfl, Nat.le_refl _, by rw [hsz]; exact grownCap_ge w l.length 0 E, by rw [hsz]; exact grownCap_le_maxLen w l.length 0 E (by omega), hat, (Below.refl w.heap.size w).drew.alloc (Nat.le_refl _) ob, fun j hj => ?_⟩
  subst hob
  rw [cell_of_row _ w.heap.size j _ E _ hat]
  have h2 : j < (txt l).data.size := by simpa using hj
  simp only [bytesRow]
  rw [Array.getElem?_append_left (by simpa using hj), Array.getElem?_map, Array.getElem?_eq_getElem h2]
  simp [byt, hj]
theorem tabs_tail {κ : IntKind} {n : Nat} {f : Nat → Nat} {sp : List Value} {j i z : Nat} {v : Value} (h : j = n + i) (hv : sp[i]? = some v) : ldv false z (tab κ n f ++ sp) j = some v := by
  subst h
  simp only [ldv, cond_false]
  rw [List.getElem?_append_right (by rw [tab_length]; omega), tab_length, Nat.add_sub_cancel_left, hv]
theorem tabs_tle {κ : IntKind} {n : Nat} {f : Nat → Nat} {sp : List Value} {j i : Nat} (h : j = n + i) (hi : i < sp.length) : Nat.ble (j + 1) (tab κ n f ++ sp).length = true :=
  Nat.ble_eq_true_of_le (by rw [List.length_append, tab_length]; omega)
theorem tabs_wr {κ : IntKind} {n : Nat} {f : Nat → Nat} {sp sp' : List Value} {j i : Nat} {v : Value} (h : j = n + i) (hs : sp.set i v = sp') : wr (tab κ n f ++ sp) j [v] = tab κ n f ++ sp' := by
  subst h; subst hs
  simp only [wr]
  rw [List.set_append_right _ _ (by rw [tab_length]; omega), tab_length, Nat.add_sub_cancel_left]
def btl (n : Nat) (f : Nat → Nat) : List UInt8 := (List.range n).map fun i => UInt8.ofNat (f i)
theorem btl_len (n : Nat) (f : Nat → Nat) : (btl n f).length = n := by simp [btl]
theorem bcs_btl {n : Nat} {f : Nat → Nat} (h : ∀ j, j < n → f j < 256) : bcs (btl n f) = tab .u8 n f := by
  unfold bcs btl tab
  rw [List.map_map]
  apply List.map_congr_left
  intro i hi
  have := h i (List.mem_range.1 hi)
  simp; omega
theorem St.arrCel (hs : St n w0 fs bs a w) (ms : Option Nat) (k : Nat) {g n0 : Nat} {T : TypeId} {f : Nat → Nat} (hb : bs[k]? = some (true, g, T, tab .u8 n0 f)) (hf : ∀ j, j < n0 → f j < 256) (hm : n0 ≤ 1000000) (hok : okS ms w0.S 1 = true) :
    St n (w0.withS (putS ms w0.S [.cel (.slice (some ⟨g, 0, none⟩) n0 n0) n0 (bcs (btl n0 f))])) fs (bs.set k (false, g, T, tab .u8 n0 f)) a w := by
  have hmax : (1000001 : Nat) ≤ maxLen := by decide
  have hbk := hs.blks k _ hb rfl
  have key : ∀ (i : Nat) (e : Bl), (bs.set k (false, g, T, tab .u8 n0 f))[i]? = some e → e.1 = true → bs[i]? = some e ∧ i ≠ k := by
    intro i e h h1
    rw [List.getElem?_set] at h
    split at h
    · split at h
      · obtain rfl := Option.some.inj h; cases h1
      · cases h
    · rename_i hik; exact ⟨h, fun e => hik e.symm⟩
  have h0 : St n w0 fs (bs.set k (false, g, T, tab .u8 n0 f)) a w :=
    ⟨hs.size, hs.defers, hs.slots, fun i e h h1 => hs.blks i e (key i e h h1).1 h1, fun i j e e' hij h h' h1 h1' => hs.apart i j e e' hij (key i e h h1).1 (key j e' h' h1').1 h1 h1', hs.below, fun p hp => ⟨(hs.frz p hp).1, fun i e h h1 => (hs.frz p hp).2 i e (key i e h h1).1 h1⟩,
      fun i e h h1 => Fz.ok_mono (fun _ _ h => h) (fun x hx _ => ⟨⟨hx.1, fun j b hj hb1 => hx.2.1 j b (key j b hj hb1).1 hb1, hx.2.2⟩, rfl⟩) (hs.fz i e h h1)⟩
  refine h0.pushS ms hok (okl1 ⟨_, _, rfl, Nat.le_refl _, by omega, (fun h => by cases h), fun j u hu => ⟨g, 0, rfl, ⟨.inr hbk.2, fun i e h h1 => ?_, fun i e h h1 ho => ?_⟩, ?_⟩⟩)
  · obtain ⟨h2, h3⟩ := key i e h h1
    exact hs.apart i k e _ h3 h2 hb h1 rfl
  · exact (Fz.ok_lt (hs.fz i e h h1) ho).2.1.2.1 k _ hb rfl rfl
  · rw [bcs_btl hf] at hu
    rw [Nat.zero_add, cell_of_row w g j _ T _ hbk.1]
    simpa using hu
theorem tab_oneC {κ : IntKind} {n : Nat} {f : Nat → Nat} : ∀ u ∈ tab κ n f, u.oneCell' = true := by
  intro u hu
  obtain ⟨i, _, rfl⟩ := List.mem_map.1 hu
  rfl
theorem res0 {fn : Func} (h : fn.results = #[]) : (results fn a.tmps).run P w = .ok (.tuple #[]) w := by
  rw [results_rv, h, show (#[] : Array ResultVar) = [].toArray from rfl, List.mapM_toArray]
  simp only [List.mapM_nil, map_eq_pure_bind, pure_bind, Sem.run_pure]
  rfl
theorem op_convSB' (hs : St n w0 fs bs a w) (m ms : Option Nat) {T U E : TypeId} {x : Operand} {l : List UInt8} {d : Nat} (ho : o.op = .convert T U x) (hd : o.dst = some d) (hx : ev fs x = some (.string (txt l)))
    (hT : P.underlying T = some .string) (hU : P.underlying U = some (.slice E)) (hE : P.underlying E = some (.int .u8)) (hl : l.length ≤ 1000000) (hokS : okS ms w0.S 1 = true) (hok : okf m fs d n = true)
    (hrun : ∃ g c ob w', (convert T U (.string (txt l))).run P w = .ok (.slice (some ⟨g, 0, none⟩) l.length c) w' ∧ w.heap.size ≤ g ∧ l.length ≤ c ∧ c ≤ maxLen ∧ w'.heap[g]? = some ob ∧ Below w.heap.size w w' ∧ ∀ j, j < l.length → w'.cell? ⟨g, j, none⟩ = some (.int .u8 (byt l j : Int)))
    (h : ∀ a' c' act w', St n (w0.withS (putS ms w0.S [.cel (.slice a' l.length c') l.length (bcs l)])) (putf m fs d (.slice a' l.length c')) bs act w' → K act w') : o.wp P a w K Q := by
  obtain ⟨g, c, ob, w', hr, hg, hc, hcm, hob, hb, hcell⟩ := hrun
  unfold Oper.wp execOp
  rw [ho]
  simp only [hs.ev hx, Sem.run_bind, hr, Result.andThen_ok, Sem.run_pure, Oper.upon_value, hd]
  refine h _ _ _ _ ((hs.addS hokS hb (okl1z (e := .cel _ _ _) ⟨_, _, rfl, hc, hcm, (fun h => by cases h), fun j u hu => ⟨g, 0, rfl, .inr (.inl hg), ?_⟩⟩)).put hok _)
  have hj : j < l.length := by have := (List.getElem?_eq_some_iff.1 hu).1; rwa [bcs_length] at this
  rw [Nat.zero_add, hcell j hj, ← hu, bcs_get hj]
end
end Go.Proofs.YtejbajgpiecjcaaGreat

/- SHA-256, as numbers and lists of bytes. Plain law, no program here. -/
namespace Go.Proofs.YtejbajgpiecjcaaGreat
def rr (x n : Nat) : Nat := (x / 2 ^ n) ||| (x * 2 ^ (32 - n) % 4294967296)
theorem rr_lt {x n : Nat} (h : x < 4294967296) : rr x n < 4294967296 :=
  Nat.or_lt_two_pow (n := 32) (Nat.lt_of_le_of_lt (Nat.div_le_self _ _) h) (Nat.mod_lt _ (by decide))
theorem x32 {x y : Nat} (hx : x < 4294967296) (hy : y < 4294967296) : x ^^^ y < 4294967296 := Nat.xor_lt_two_pow (n := 32) hx hy
theorem a32 {x y : Nat} (hy : y < 4294967296) : x &&& y < 4294967296 := Nat.and_lt_two_pow (n := 32) x hy
theorem m32 (x : Nat) : x % 4294967296 < 4294967296 := Nat.mod_lt _ (by decide)
def ss0 (x : Nat) : Nat := (rr x 7 ^^^ rr x 18) ^^^ (x / 2 ^ 3)
def ss1 (x : Nat) : Nat := (rr x 17 ^^^ rr x 19) ^^^ (x / 2 ^ 10)
def pre4 (b : List UInt8) (t : Nat) : Nat → Nat
  | 0 => 0
  | k + 1 => pre4 b t k * 256 + byt b (4 * t + k)
theorem pre4_lt (b : List UInt8) (t : Nat) : ∀ k, pre4 b t k < 256 ^ k
  | 0 => by simp [pre4]
  | k + 1 => by
    have h := pre4_lt b t k
    have := byt_lt b (4 * t + k)
    rw [pre4, Nat.pow_succ]
    omega
theorem pre4_24 {b : List UInt8} {t k : Nat} (h : k < 4) : pre4 b t k < 16777216 := by
  have h1 := pre4_lt b t k
  have h2 : 256 ^ k ≤ 256 ^ 3 := Nat.pow_le_pow_right (by decide) (by omega)
  have : 256 ^ 3 = 16777216 := by decide
  omega
theorem or_256' {x y : Nat} (hx : x < 256) : y * 256 ||| x = y * 256 + x := by
  have := Nat.shiftLeft_add_eq_or_of_lt (i := 8) (b := x) (by omega) y
  rw [Nat.shiftLeft_eq] at this
  rw [show (256 : Nat) = 2 ^ 8 from rfl, ← this]
def wv (b : List UInt8) (t : Nat) : Nat :=
  if _h : t < 16 then pre4 b t 4 else (((wv b (t - 16) + ss0 (wv b (t - 15))) % 4294967296 + wv b (t - 7)) % 4294967296 + ss1 (wv b (t - 2))) % 4294967296
termination_by t
decreasing_by all_goals omega
theorem wv_lo {b : List UInt8} {t : Nat} (h : t < 16) : wv b t = pre4 b t 4 := by rw [wv, dif_pos h]
theorem wv_hi {b : List UInt8} {t : Nat} (h : ¬ t < 16) : wv b t = (((wv b (t - 16) + ss0 (wv b (t - 15))) % 4294967296 + wv b (t - 7)) % 4294967296 + ss1 (wv b (t - 2))) % 4294967296 := by rw [wv, dif_neg h]
theorem wv_lt (b : List UInt8) (t : Nat) : wv b t < 4294967296 := by
  by_cases h : t < 16
  · rw [wv_lo h]
    have := pre4_lt b t 4
    have e : 256 ^ 4 = 4294967296 := by decide
    omega
  · rw [wv_hi h]; exact m32 _
def KK (i : Nat) : Nat := [1116352408, 1899447441, 3049323471, 3921009573, 961987163, 1508970993, 2453635748, 2870763221, 3624381080, 310598401, 607225278, 1426881987, 1925078388, 2162078206, 2614888103, 3248222580,
  3835390401, 4022224774, 264347078, 604807628, 770255983, 1249150122, 1555081692, 1996064986, 2554220882, 2821834349, 2952996808, 3210313671, 3336571891, 3584528711, 113926993, 338241895,
  666307205, 773529912, 1294757372, 1396182291, 1695183700, 1986661051, 2177026350, 2456956037, 2730485921, 2820302411, 3259730800, 3345764771, 3516065817, 3600352804, 4094571909, 275423344,
  430227734, 506948616, 659060556, 883997877, 958139571, 1322822218, 1537002063, 1747873779, 1955562222, 2024104815, 2227730452, 2361852424, 2428436474, 2756734187, 3204031479, 3329325298].getD i 0
def ft8 (a b c d e f g h : Nat) (i : Nat) : Nat := [a, b, c, d, e, f, g, h].getD i 0
def HH0 : Nat → Nat := ft8 1779033703 3144134277 1013904242 2773480762 1359893119 2600822924 528734635 1541459225
theorem ft8_lt {a b c d e f g h : Nat} {M : Nat} (h0 : 0 < M) (ha : a < M) (hb : b < M) (hc : c < M) (hd : d < M) (he : e < M) (hf : f < M) (hg : g < M) (hh : h < M) (i : Nat) : ft8 a b c d e f g h i < M := by
  match i with
  | 0 => exact ha
  | 1 => exact hb
  | 2 => exact hc
  | 3 => exact hd
  | 4 => exact he
  | 5 => exact hf
  | 6 => exact hg
  | 7 => exact hh
  | i + 8 => simpa [ft8] using h0
theorem HH0_lt (i : Nat) : HH0 i < 4294967296 := ft8_lt (by decide) (by decide) (by decide) (by decide) (by decide) (by decide) (by decide) (by decide) (by decide) i
theorem KK_lt (i : Nat) : KK i < 4294967296 := by
  by_cases h : i < 64
  · have : ∀ j : Fin 64, KK j.1 < 4294967296 := by decide
    exact this ⟨i, h⟩
  · unfold KK
    rw [List.getD_eq_getElem?_getD, List.getElem?_eq_none (by simp; omega)]
    decide
def t1v (k w : Nat) (v : Nat → Nat) : Nat :=
  ((((v 7 + ((rr (v 4) 6 ^^^ rr (v 4) 11) ^^^ rr (v 4) 25)) % 4294967296 + ((v 4 &&& v 5) ^^^ ((4294967295 - v 4) &&& v 6))) % 4294967296 + k) % 4294967296 + w) % 4294967296
def t2v (v : Nat → Nat) : Nat :=
  (((rr (v 0) 2 ^^^ rr (v 0) 13) ^^^ rr (v 0) 22) + (((v 0 &&& v 1) ^^^ (v 0 &&& v 2)) ^^^ (v 1 &&& v 2))) % 4294967296
def rnd (k w : Nat) (v : Nat → Nat) : Nat → Nat := ft8 ((t1v k w v + t2v v) % 4294967296) (v 0) (v 1) (v 2) ((v 3 + t1v k w v) % 4294967296) (v 4) (v 5) (v 6)
theorem rnd_lt {k w : Nat} {v : Nat → Nat} (h : ∀ j, v j < 4294967296) (j : Nat) : rnd k w v j < 4294967296 :=
  ft8_lt (by decide) (m32 _) (h _) (h _) (h _) (m32 _) (h _) (h _) (h _) j
def rnds (w h : Nat → Nat) : Nat → Nat → Nat
  | 0 => h
  | t + 1 => rnd (KK t) (w t) (rnds w h t)
theorem rnds_lt {w h : Nat → Nat} (hh : ∀ j, h j < 4294967296) : ∀ t j, rnds w h t j < 4294967296
  | 0, j => hh j
  | t + 1, j => rnd_lt (rnds_lt hh t) j
def blk (h : Nat → Nat) (b : List UInt8) (i : Nat) : Nat := (h i + rnds (wv b) h 64 i) % 4294967296
theorem blk_lt (h : Nat → Nat) (b : List UInt8) (i : Nat) : blk h b i < 4294967296 := m32 _
def blks (h : Nat → Nat) (l : List UInt8) : Nat → Nat := if _h : l.length < 64 then h else blks (blk h (l.take 64)) (l.drop 64)
termination_by l.length
decreasing_by simp; omega
theorem blks_end {h : Nat → Nat} {l : List UInt8} (hl : l.length < 64) : blks h l = h := by rw [blks, dif_pos hl]
theorem blks_step {h : Nat → Nat} {l : List UInt8} (hl : ¬ l.length < 64) : blks h l = blks (blk h (l.take 64)) (l.drop 64) := by rw [blks, dif_neg hl]
theorem blks_lt {h : Nat → Nat} (hh : ∀ j, h j < 4294967296) (l : List UInt8) (j : Nat) : blks h l j < 4294967296 := by
  induction hn : l.length using Nat.strongRecOn generalizing h l with
  | _ n ih =>
    by_cases hl : l.length < 64
    · rw [blks_end hl]; exact hh j
    · rw [blks_step hl]
      exact ih _ (by simp; omega) (blk_lt _ _) _ rfl
def rst (l : List UInt8) : List UInt8 := l.drop (64 * (l.length / 64))
theorem rst_end {l : List UInt8} (hl : l.length < 64) : rst l = l := by unfold rst; rw [Nat.div_eq_of_lt hl]; simp
theorem rst_step {l : List UInt8} (hl : ¬ l.length < 64) : rst l = rst (l.drop 64) := by
  unfold rst
  rw [List.drop_drop, List.length_drop]
  congr 1
  omega
theorem rst_length (l : List UInt8) : (rst l).length = l.length % 64 := by unfold rst; rw [List.length_drop]; omega
theorem blks_append {h : Nat → Nat} (l k : List UInt8) : blks h (l ++ k) = blks (blks h l) (rst l ++ k) := by
  induction hn : l.length using Nat.strongRecOn generalizing h l with
  | _ n ih =>
    by_cases hl : l.length < 64
    · rw [blks_end hl, rst_end hl]
    · rw [blks_step hl, rst_step hl, blks_step (l := l ++ k) (by simp; omega), List.take_append_of_le_length (by omega), List.drop_append_of_le_length (by omega)]
      exact ih _ (by simp; omega) _ rfl
theorem rst_append (l k : List UInt8) : rst (l ++ k) = rst (rst l ++ k) := by
  induction hn : l.length using Nat.strongRecOn generalizing l with
  | _ n ih =>
    by_cases hl : l.length < 64
    · rw [rst_end hl]
    · rw [rst_step hl, rst_step (l := l ++ k) (by simp; omega), List.drop_append_of_le_length (by omega)]
      exact ih _ (by simp; omega) _ rfl
def be8 (x : Nat) : List UInt8 := (List.range 8).map fun i => UInt8.ofNat (x / 2 ^ (56 - 8 * i) % 256)
def be8t (x k : Nat) : List UInt8 := (List.range k).map fun i => UInt8.ofNat (x / 2 ^ (56 - 8 * i) % 256)
theorem be8t_succ (x k : Nat) : be8t x (k + 1) = be8t x k ++ [UInt8.ofNat (x / 2 ^ (56 - 8 * k) % 256)] := by simp [be8t, List.range_succ]
theorem be8t_len (x k : Nat) : (be8t x k).length = k := by simp [be8t]
def zs64 (m : Nat) : Nat := (119 - m % 64) % 64
def tl0 (j : Nat) : List UInt8 := UInt8.ofNat 128 :: List.replicate j 0
def tl64 (m n : Nat) : List UInt8 := tl0 (zs64 m) ++ be8 (n * 8)
theorem tl0_len (j : Nat) : (tl0 j).length = j + 1 := by simp [tl0]
theorem tl0_succ (j : Nat) : tl0 j ++ [UInt8.ofNat 0] = tl0 (j + 1) := by
  unfold tl0
  rw [List.replicate_succ', List.cons_append]; rfl
theorem tl64_mod (m n : Nat) : tl64 (m % 64) n = tl64 m n := by unfold tl64 zs64; rw [Nat.mod_mod]
theorem tl64_len (m n : Nat) : (m + (tl64 m n).length) % 64 = 0 := by
  unfold tl64 zs64
  simp [tl0_len, be8]
  omega
theorem zs_end {m j : Nat} (hj : j ≤ zs64 m) (h : (m + (j + 1)) % 64 = 56) : j = zs64 m := by unfold zs64 at *; omega
theorem zs_go {m j : Nat} (hj : j ≤ zs64 m) (h : ¬ (m + (j + 1)) % 64 = 56) : j + 1 ≤ zs64 m := by
  by_cases e : j = zs64 m
  · exfalso; subst e; unfold zs64 at h; omega
  · omega
def shaH (l : List UInt8) : Nat → Nat := blks HH0 (l ++ tl64 l.length l.length)
def shaB (h : Nat → Nat) (j : Nat) : Nat := h (j / 4) / 2 ^ (24 - 8 * (j % 4)) % 256
def sha (l : List UInt8) (j : Nat) : Nat := shaB (shaH l) j
theorem shaB_lt (h : Nat → Nat) (j : Nat) : shaB h j < 256 := Nat.mod_lt _ (by decide)
theorem sha_lt (l : List UInt8) (j : Nat) : sha l j < 256 := shaB_lt _ _
theorem sha_go (l : List UInt8) : blks (blks HH0 l) (rst l ++ tl64 (rst l).length l.length) = shaH l := by
  unfold shaH
  rw [rst_length, tl64_mod, ← blks_append]
theorem wr_go (h : Nat → Nat) (l k : List UInt8) : blks (blks h l) (rst l ++ k) = blks h (l ++ k) := (blks_append l k).symm
theorem not32 {x : Nat} (h : x < 4294967296) : x ^^^ 4294967295 = 4294967295 - x := by
  have e := BitVec.toNat_not (x := BitVec.ofNat 32 x)
  have e2 : (~~~ (BitVec.ofNat 32 x)) = BitVec.ofNat 32 x ^^^ BitVec.allOnes 32 := (BitVec.xor_allOnes).symm
  rw [e2, BitVec.toNat_xor, BitVec.toNat_ofNat, BitVec.toNat_allOnes, Nat.mod_eq_of_lt h] at e
  exact e
theorem or_add {x y k : Nat} (hx : x < 2 ^ k) : y * 2 ^ k ||| x = y * 2 ^ k + x := by
  have := Nat.shiftLeft_add_eq_or_of_lt (i := k) (b := x) hx y
  rw [Nat.shiftLeft_eq] at this
  exact this.symm
theorem or4 {a b c d : Nat} (hb : b < 256) (hc : c < 256) (hd : d < 256) : ((a * 2 ^ 24 ||| b * 2 ^ 16) ||| c * 2 ^ 8) ||| d = ((a * 256 + b) * 256 + c) * 256 + d := by
  rw [or_add (x := b * 2 ^ 16) (k := 24) (by omega), show a * 2 ^ 24 + b * 2 ^ 16 = (a * 256 + b) * 2 ^ 16 by omega, or_add (x := c * 2 ^ 8) (k := 16) (by omega),
    show (a * 256 + b) * 2 ^ 16 + c * 2 ^ 8 = ((a * 256 + b) * 256 + c) * 2 ^ 8 by omega, or_add (x := d) (k := 8) (by omega)]
theorem pre4_4 (b : List UInt8) (t : Nat) : pre4 b t 4 = ((byt b (4 * t) * 256 + byt b (4 * t + 1)) * 256 + byt b (4 * t + 2)) * 256 + byt b (4 * t + 3) := by
  simp [pre4]
theorem wv_comm (a b c d : Nat) : (((a + b) % 4294967296 + c) % 4294967296 + d) % 4294967296 = (((d + c) % 4294967296 + b) % 4294967296 + a) % 4294967296 := by omega
def w16 (l : List UInt8) (i k j : Nat) : Nat := if j < i then wv l j else if j = i then pre4 l i k else 0
theorem w16_at (l : List UInt8) (i k : Nat) : w16 l i k i = pre4 l i k := by simp [w16]
theorem w16_zero (l : List UInt8) (j : Nat) : 0 = w16 l 0 0 j := by unfold w16; rw [if_neg (by omega)]; split <;> rfl
theorem w16_next {l : List UInt8} {i : Nat} (hi : i < 16) (j : Nat) : w16 l i 4 j = w16 l (i + 1) 0 j := by
  unfold w16
  by_cases h : j < i
  · rw [if_pos h, if_pos (by omega)]
  · rw [if_neg h]
    by_cases h2 : j = i
    · subst h2
      rw [if_pos rfl, if_pos (by omega), wv_lo hi]
    · rw [if_neg h2, if_neg (by omega)]; split <;> rfl
theorem w16_step {l : List UInt8} {i k z : Nat} (hz : z = pre4 l i k * 256 + byt l (4 * i + k)) (j : Nat) : upn (w16 l i k) i z j = w16 l i (k + 1) j := by
  unfold upn w16
  by_cases h : j = i
  · subst h
    rw [if_pos rfl, if_neg (by omega), if_pos rfl, hz]; rfl
  · rw [if_neg h]
    by_cases h2 : j < i
    · rw [if_pos h2, if_pos h2]
    · rw [if_neg h2, if_neg h, if_neg h2, if_neg h]
def w64 (l : List UInt8) (i j : Nat) : Nat := if j < i then wv l j else 0
theorem w64_at {l : List UInt8} {i j : Nat} (h : j < i) : wv l j = w64 l i j := (if_pos h).symm
theorem w64_lt (l : List UInt8) (i j : Nat) : w64 l i j < 4294967296 := by unfold w64; split; exact wv_lt _ _; decide
theorem w64_16 (l : List UInt8) (j : Nat) : w16 l 16 0 j = w64 l 16 j := by
  unfold w16 w64
  split
  · rfl
  · split <;> rfl
theorem w64_step {l : List UInt8} {i z : Nat} (hz : z = wv l i) (j : Nat) : upn (w64 l i) i z j = w64 l (i + 1) j := by
  unfold upn w64
  by_cases h : j = i
  · subst h; rw [if_pos rfl, if_pos (by omega), hz]
  · rw [if_neg h]
    by_cases h2 : j < i
    · rw [if_pos h2, if_pos (by omega)]
    · rw [if_neg h2, if_neg (by omega)]
theorem w64_end {l : List UInt8} {j : Nat} (h : j < 64) : w64 l 64 j = wv l j := if_pos h
theorem byt_part {l : List UInt8} {a n k : Nat} (h : k < n) : byt ((l.drop a).take n) k = byt l (a + k) := by
  unfold byt
  rw [List.getD_eq_getElem?_getD, List.getElem?_take_of_lt h, List.getElem?_drop, List.getD_eq_getElem?_getD]
def addT (h v : Nat → Nat) (i j : Nat) : Nat := if j < i then (h j + v j) % 4294967296 else h j
theorem addT_zero (h v : Nat → Nat) (j : Nat) : h j = addT h v 0 j := by unfold addT; rw [if_neg (by omega)]
theorem addT_at (h v : Nat → Nat) (i : Nat) : addT h v i i = h i := by unfold addT; rw [if_neg (by omega)]
theorem addT_lt {h v : Nat → Nat} (hh : ∀ j, h j < 4294967296) (i j : Nat) : addT h v i j < 4294967296 := by unfold addT; split; exact m32 _; exact hh j
theorem addT_step {h v : Nat → Nat} {i z : Nat} (hz : z = (h i + v i) % 4294967296) (j : Nat) : upn (addT h v i) i z j = addT h v (i + 1) j := by
  unfold upn addT
  by_cases e : j = i
  · subst e; rw [if_pos rfl, if_pos (by omega), hz]
  · rw [if_neg e]
    by_cases h2 : j < i
    · rw [if_pos h2, if_pos (by omega)]
    · rw [if_neg h2, if_neg (by omega)]
theorem addT_end {h : Nat → Nat} {b : List UInt8} {j : Nat} (hj : j < 8) : addT h (rnds (wv b) h 64) 8 j = blk h b j := if_pos hj
def addV (h v : Nat → Nat) (i j : Nat) : Nat := if j < i then (v j + h j) % 4294967296 else v j
theorem addV_zero (h v : Nat → Nat) (j : Nat) : v j = addV h v 0 j := by unfold addV; rw [if_neg (by omega)]
theorem addV_at (h v : Nat → Nat) (i : Nat) : addV h v i i = v i := by unfold addV; rw [if_neg (by omega)]
theorem addV_lt {h v : Nat → Nat} (hv : ∀ j, v j < 4294967296) (i j : Nat) : addV h v i j < 4294967296 := by unfold addV; split; exact m32 _; exact hv j
theorem addV_step {h v : Nat → Nat} {i z : Nat} (hz : z = (v i + h i) % 4294967296) (j : Nat) : upn (addV h v i) i z j = addV h v (i + 1) j := by
  unfold upn addV
  by_cases e : j = i
  · subst e; rw [if_pos rfl, if_pos (by omega), hz]
  · rw [if_neg e]
    by_cases h2 : j < i
    · rw [if_pos h2, if_pos (by omega)]
    · rw [if_neg h2, if_neg (by omega)]
theorem addV_end {h : Nat → Nat} {b : List UInt8} {j : Nat} (hj : j < 8) : addV h (rnds (wv b) h 64) 8 j = blk h b j := by
  unfold addV blk; rw [if_pos hj, Nat.add_comm]
theorem tab_snoc1 {k : IntKind} {n z : Nat} {f : Nat → Nat} (h : f n = z) : tab k n f ++ [.int k (z : Int)] = tab k (n + 1) f := by
  subst h; simp [tab, List.range_succ]
theorem tl64_le (m n : Nat) : (tl64 m n).length ≤ 72 := by
  unfold tl64 zs64
  simp [tl0_len, be8]
  omega
def outT (h : Nat → Nat) (i j : Nat) : Nat := if j < i then shaB h j else 0
theorem outT_zero (h : Nat → Nat) (j : Nat) : 0 = outT h 0 j := by unfold outT; rw [if_neg (by omega)]
theorem outT_step {h : Nat → Nat} {i z : Nat} (hz : z = shaB h i) (j : Nat) : upn (outT h i) i z j = outT h (i + 1) j := by
  unfold upn outT
  by_cases e : j = i
  · subst e; rw [if_pos rfl, if_pos (by omega), hz]
  · rw [if_neg e]
    by_cases h2 : j < i
    · rw [if_pos h2, if_pos (by omega)]
    · rw [if_neg h2, if_neg (by omega)]
theorem outT_end {h : Nat → Nat} {j : Nat} (hj : j < 32) : outT h 32 j = shaB h j := if_pos hj
theorem shaB_at {h : Nat → Nat} {i k : Nat} (hk : k < 4) : h i / 2 ^ (24 - 8 * k) % 256 = shaB h (4 * i + k) := by
  unfold shaB
  rw [show (4 * i + k) / 4 = i by omega, show (4 * i + k) % 4 = k by omega]
def tagH (t l : List UInt8) : Nat → Nat := sha (btl 32 (sha t) ++ btl 32 (sha t) ++ l)
theorem tagH_lt (t l : List UInt8) (j : Nat) : tagH t l j < 256 := sha_lt _ _
def dbl (l : List UInt8) : Nat → Nat := sha (btl 32 (sha l))
theorem wr_h (m b : List UInt8) : blks (blks HH0 m) (rst m ++ b) = blks HH0 (m ++ b) := wr_go HH0 m b
theorem rst_lt (l : List UInt8) : (rst l).length < 64 := by rw [rst_length]; exact Nat.mod_lt _ (by decide)
theorem sha_sum (m : List UInt8) : blks (blks HH0 m) (rst m ++ tl64 (rst m).length m.length) = shaH m := sha_go m
end Go.Proofs.YtejbajgpiecjcaaGreat

/- Keys and signatures on the curve. Plain law, no program here. -/
namespace Go.Proofs.YtejbajgpiecjcaaGreat
theorem mN (a : Nat) : a % Nord < Nord := Nat.mod_lt _ (by decide)
theorem mN256 (a : Nat) : a % Nord < 2 ^ 256 := Nat.lt_trans (mN a) Nord_lt
def ngN (k : Nat) : Nat := (Nord - k % Nord) % Nord
def sD (s : Nat) : Nat := if s % Nord = 0 then 0 else if evB (EM.nmul (s % Nord) Gp) = true then s % Nord else ngN (s % Nord)
def sK (s : Nat) : Nat → Nat := if s % Nord = 0 then fun _ => 0 else by8 (px (EM.nmul (s % Nord) Gp))
def sE (s : Nat) : Nat := if s % Nord = 0 then 1 else 0
theorem sD_lt (s : Nat) : sD s < Nord := by
  unfold sD
  split
  · decide
  · split
    · exact mN _
    · exact mN _
theorem sD_lt256 (s : Nat) : sD s < 2 ^ 256 := Nat.lt_trans (sD_lt s) Nord_lt
theorem sK_lt (s j : Nat) : sK s j < 256 := by
  unfold sK
  split
  · show 0 < 256; decide
  · exact by8_lt _ _
theorem sE_1 {s : Nat} (h : sE s ≠ 0) : s % Nord = 0 ∧ sE s = 1 := by
  by_cases e : s % Nord = 0
  · exact ⟨e, if_pos e⟩
  · exact absurd (if_neg e) h
theorem sE_le (s : Nat) : sE s < 2 := by unfold sE; split <;> decide
section
variable {s : Nat} (hs : ¬ s % Nord = 0)
include hs
theorem sD_ev (h : evB (EM.nmul (s % Nord) Gp) = true) : sD s = s % Nord := by unfold sD; rw [if_neg hs, if_pos h]
theorem sD_od (h : ¬ evB (EM.nmul (s % Nord) Gp) = true) : sD s = ngN (s % Nord) := by unfold sD; rw [if_neg hs, if_neg h]
theorem sK_eq : sK s = by8 (px (EM.nmul (s % Nord) Gp)) := if_neg hs
end
def chTag : List UInt8 := [66, 73, 80, 48, 51, 52, 48, 47, 99, 104, 97, 108, 108, 101, 110, 103, 101]
def tuTag : List UInt8 := [84, 97, 112, 84, 119, 101, 97, 107]
def chal (r key : Nat → Nat) (msg : List UInt8) : Nat := pr (tagH chTag (btl 32 r ++ btl 32 key ++ msg)) 0 32 % Nord
theorem chal_lt (r key : Nat → Nat) (msg : List UInt8) : chal r key msg < 2 ^ 256 := mN256 _
def rdN (b : Nat → Nat) : Nat := if pr b 0 32 < Nord then pr b 0 32 else 0
def eqF (n : Nat) (f g : Nat → Nat) : Bool := (List.range n).all fun j => f j == g j
def vPt (key : Nat → Nat) (msg sig : List UInt8) : EM.Pt Pf :=
  (EM.nmul (rdN (byt (sig.drop 32))) Gp).add (EM.nmul (ngN (chal (byt (sig.take 32)) key msg)) (liftP (pr key 0 32)))
def vRest (key : Nat → Nat) (msg sig : List UInt8) : Bool := evB (vPt key msg sig) && eqF 32 (by8 (px (vPt key msg sig))) (byt (sig.take 32))
def verB (key : Nat → Nat) (msg sig : List UInt8) : Bool :=
  if pz (liftP (pr key 0 32)) = true ∨ sig.length ≠ 64 then false
  else if ¬ pr (byt (sig.drop 32)) 0 32 < Nord then false else vRest key msg sig
theorem st_zero {s r : Nat} (hr : s % Nord = r) (h : r = 0) : sD s = r ∧ sK s = (fun _ => 0) ∧ sE s = 1 := by
  subst h
  exact ⟨if_pos hr, if_pos hr, if_pos hr⟩
theorem st_even {s r : Nat} {T : EM.Pt Pf} (hr : s % Nord = r) (h : ¬ r = 0) (hT : EM.nmul r Gp = T) (he : evB T = true) : sD s = r ∧ sK s = by8 (px T) ∧ sE s = 0 := by
  subst hr; subst hT
  exact ⟨sD_ev h he, sK_eq h, if_neg h⟩
theorem st_odd {s r x : Nat} {T : EM.Pt Pf} (hr : s % Nord = r) (h : ¬ r = 0) (hT : EM.nmul r Gp = T) (he : ¬ evB T = true) (hx : (Nord - r % Nord) % Nord = x) : sD s = x ∧ sK s = by8 (px T) ∧ sE s = 0 := by
  subst hr; subst hT; subst hx
  exact ⟨sD_od h he, sK_eq h, if_neg h⟩
def sgS (s k : Nat) (msg : List UInt8) : Nat := (sD k + chal (sK k) (sK s) msg * sD s % Nord) % Nord
def sgB (s k : Nat) (msg : List UInt8) : List UInt8 := if sE s = 0 ∧ sE k = 0 then btl 32 (sK k) ++ btl 32 (by8 (sgS s k msg)) else []
def sgE (s k : Nat) : Nat := if sE s = 0 ∧ sE k = 0 then 0 else 1
theorem sgB_yes {s k : Nat} (msg : List UInt8) (h : sE s = 0) (h2 : sE k = 0) : sgB s k msg = btl 32 (sK k) ++ btl 32 (by8 (sgS s k msg)) ∧ sgE s k = 0 := ⟨if_pos ⟨h, h2⟩, if_pos ⟨h, h2⟩⟩
theorem sgB_no {s k : Nat} (msg : List UInt8) (h : ¬ (sE s = 0 ∧ sE k = 0)) : sgB s k msg = [] ∧ sgE s k = 1 := ⟨if_neg h, if_neg h⟩
theorem sgB_len (s k : Nat) (msg : List UInt8) : (sgB s k msg).length ≤ 64 := by
  unfold sgB
  split
  · simp [btl_len]
  · simp
theorem sK_one : sK 1 = by8 (px Gp) := by
  have h1 : 1 % Nord = 1 := Nat.mod_eq_of_lt (by decide)
  rw [sK_eq (by rw [h1]; decide), h1, nmul_one']
def tuB (inner : Nat → Nat) (root : List UInt8) : Nat → Nat := tagH tuTag (btl 32 inner ++ root)
def tuQ (inner : Nat → Nat) (root : List UInt8) : EM.Pt Pf := (liftP (pr inner 0 32)).add (EM.nmul (rdN (tuB inner root)) Gp)
def tuOk (inner : Nat → Nat) (root : List UInt8) : Prop := pz (liftP (pr inner 0 32)) = false ∧ pr (tuB inner root) 0 32 < Nord ∧ pz (tuQ inner root) = false
instance (inner : Nat → Nat) (root : List UInt8) : Decidable (tuOk inner root) := by unfold tuOk; exact inferInstance
def tuK (inner : Nat → Nat) (root : List UInt8) : Nat → Nat := if tuOk inner root then by8 (px (tuQ inner root)) else fun _ => 0
def tuO (inner : Nat → Nat) (root : List UInt8) : Bool := if tuOk inner root then !evB (tuQ inner root) else false
def tuE (inner : Nat → Nat) (root : List UInt8) : Nat := if tuOk inner root then 0 else 1
def tsQ (s : Nat) (root : List UInt8) : Nat := (sD s + rdN (tuB (sK s) root)) % Nord
def tsOk (s : Nat) (root : List UInt8) : Prop := sE s = 0 ∧ pr (tuB (sK s) root) 0 32 < Nord ∧ ¬ tsQ s root = 0
instance (s : Nat) (root : List UInt8) : Decidable (tsOk s root) := by unfold tsOk; exact inferInstance
def tsV (s : Nat) (root : List UInt8) : Nat := if tsOk s root then tsQ s root else 0
def tsE (s : Nat) (root : List UInt8) : Nat := if tsOk s root then 0 else 1
end Go.Proofs.YtejbajgpiecjcaaGreat

/- Operations on arrays of bytes and rows of byte strings; what schnorr's walks want besides. -/
namespace Go.Proofs.YtejbajgpiecjcaaGreat
open Go.RowKit
section
variable {P : Program}
end
section
variable {P : Program} {Q : Exit → Act → World → Prop} {K : Act → World → Prop} {a : Act} {w : World} {o : Oper} {n : Nat} {w0 : Bs} {fs : List Sl} {bs : List Bl}
theorem op_bsC (hs : St n w0 fs bs a w) (m ms : Option Nat) {T E : TypeId} {ps : Array (Nat × Operand)} {l : Nat} {qs : List (Nat × Value)} {z : Value} {size bytes : Nat} {cs cs' : List Value} {d : Nat} (ho : o.op = .buildSlice T l ps) (hd : o.dst = some d)
    (hx : evs fs (ps.toList.map (·.2)) = some (qs.map (·.2))) (hi : ps.toList.map (·.1) = qs.map (·.1)) (hu : P.underlying T = some (.slice E)) (hI : Inf P E z size bytes) (hl : l * size ≤ 1000) (hl0 : 0 < l * size)
    (hf : Instr.fill (fun i => some (i * size, size)) ((Array.range (l * size)).map (z.cells[· % z.cells.size]!)) qs = some cs.toArray) (hlen : cs.length = l * size) (hc : cs = cs') (hokS : okS ms w0.S 1 = true) (hok : okf m fs d n = true)
    (h : ∀ a' act w', St n (w0.withS (putS ms w0.S [.cel (.slice a' l l) l cs'])) (putf m fs d (.slice a' l l)) bs act w' → K act w') : o.wp P a w K Q := by
  subst hc
  obtain ⟨ie, hie, hz, hs1, _⟩ := hI
  have hmax : (1000001 : Nat) ≤ maxLen := by decide
  have hsz : 1 ≤ size := by
    rcases Nat.eq_zero_or_pos size with h0 | h0
    · rw [h0, Nat.mul_zero] at hl0; omega
    · exact h0
  have hll : l ≤ 1000 := Nat.le_trans (by have := Nat.mul_le_mul_left l hsz; omega) hl
  have hm : ps.map (fun (p : Nat × Operand) => (p.1, a.eval p.2)) = qs.toArray := by
    have h1 := hs.evs hx
    apply Array.ext'
    simp only [Array.toList_map]
    rw [List.map_map] at h1
    apply List.ext_getElem?
    intro j
    have e1 := congrArg (·[j]?) h1
    have e2 := congrArg (·[j]?) hi
    simp only [List.getElem?_map] at e1 e2 ⊢
    cases hp : ps.toList[j]? with
    | none =>
      rw [hp] at e1
      cases hq : qs[j]? with
      | none => rfl
      | some q => rw [hq] at e1; simp at e1
    | some p =>
      rw [hp] at e1 e2
      cases hq : qs[j]? with
      | none => rw [hq] at e1; simp at e1
      | some q =>
        rw [hq] at e1 e2
        simp at e1 e2
        simp [e1, e2]
  have hrun := run_buildSlice (P := P) w T E l qs.toArray _ ie z hu hie hz (by rw [hs1]; omega) (by rw [hs1]; omega) (by rw [hs1]; exact hf)
  unfold Oper.wp execOp
  rw [ho]
  simp only [hm, Sem.run_bind, hrun, Result.andThen_ok, Sem.run_pure, Oper.upon_value, hd]
  have hat : (w.alloc (.cells cs.toArray E)).heap[w.heap.size]? = some (.cells cs.toArray E (0, 0)) := heap_alloc_at w _
  have hbl : Below w.heap.size w (w.alloc (.cells cs.toArray E)) := (Below.refl _ _).alloc (Nat.le_refl _) _
  exact h _ _ _ ((hs.addS hokS hbl (okl1z (e := .cel _ _ _) ⟨_, _, rfl, Nat.le_refl _, by omega, (fun h => by cases h), fun j u hu => ⟨w.heap.size, 0, rfl, .inr (.inl (Nat.le_refl _)), by
    rw [Nat.zero_add, cell_of_row _ w.heap.size j _ E _ hat]; simpa using hu⟩⟩)).put hok _)
end
def bytT (l : List UInt8) (i j : Nat) : Nat := if j < i then byt l j else 0
theorem bys0 {w : World} {Z : Nat → Prop} : BysV w Z [] [] := ⟨rfl, fun i v l h => by simp at h⟩
theorem bysC {w : World} {Z : Nat → Prop} {v : Value} {l : List UInt8} {vs : List Value} {ls : List (List UInt8)} (h : ByV w Z v l) (hs : BysV w Z vs ls) : BysV w Z (v :: vs) (l :: ls) := by
  refine ⟨by simp [hs.1], fun i u k hu hk => ?_⟩
  cases i with
  | zero =>
    obtain rfl : v = u := by simpa using hu
    obtain rfl : l = k := by simpa using hk
    exact h
  | succ i => exact hs.2 i u k (by simpa using hu) (by simpa using hk)
theorem flat_take {ls : List (List UInt8)} {i : Nat} {l : List UInt8} (h : ls[i]? = some l) : (ls.take (i + 1)).flatten = (ls.take i).flatten ++ l := by
  rw [List.take_add_one, h]; simp
theorem flat_le (ls : List (List UInt8)) (i : Nat) : ((ls.take i).flatten).length ≤ ls.flatten.length := by
  have : ls.flatten = (ls.take i).flatten ++ (ls.drop i).flatten := by rw [← List.flatten_append, List.take_append_drop]
  rw [this, List.length_append]; omega
theorem flat_end {ls : List (List UInt8)} {i : Nat} (h : ¬ i < ls.length) : (ls.take i).flatten = ls.flatten := by rw [List.take_of_length_le (by omega)]
end Go.Proofs.YtejbajgpiecjcaaGreat

/- The contracts of scalar.Order, over, Reduce, Add, Neg. -/
namespace Go.Proofs.YtejbajgpiecjcaaGreat
open Go.RowKit _root_.Go.Proofs.Tryz
theorem modN_lt (a : Nat) : a % Nord < 2 ^ 256 := Nat.lt_trans (Nat.mod_lt _ (by decide)) Nord_lt
set_option maxRecDepth 10000
theorem order_c  (w0 : World) : Calls prog 70 #[] w0 fun e w' => e = .returned (W Nord) ∧ Below w0.heap.size w0 w' := by
 refine enter (n := 2) (args := []) func70 rfl rfl (Nat.le_of_ble_eq_true rfl) fun ac hs => ?_
 refine wp_seq (wp_region_lit ?_)
 refine stp (op_alloc hs none none (cs := [.int .u64 0, .int .u64 0, .int .u64 0, .int .u64 0]) rfl rfl zeroValue24 (by kernel_rfl) rfl rfl fun g1 ac w hs => ?_)
 refine wpList_nil (then_n (wp_seq (wp_region_lit ?_)))
 refine stp (op_build hs none (qs := [(0, .int .u64 13822214165235122497), (1, .int .u64 13451932020343611451), (2, .int .u64 18446744073709551614), (3, .int .u64 18446744073709551615)]) (v := .agg #[.int .u64 13822214165235122497, .int .u64 13451932020343611451, .int .u64 18446744073709551614, .int .u64 18446744073709551615]) rfl rfl rfl rfl (fun _ => by kernel_rfl) rfl fun ac hs => ?_)
 refine stp (stoo hs 0 ([.int .u64 13822214165235122497, .int .u64 13451932020343611451, .int .u64 18446744073709551614, .int .u64 18446744073709551615]) sizeOf24 rfl rfl rfl rfl rfl rfl rfl rfl rfl rfl fun w hs => ?_)
 refine wpList_nil (then_n (wp_ret ?_))
 exact bodyPost_ret (res1 rfl (rv_c hs 0 (v := .agg #[.int .u64 13822214165235122497, .int .u64 13451932020343611451, .int .u64 18446744073709551614, .int .u64 18446744073709551615]) rfl rfl isAgg24 sizeOf24 rfl)) hs.defers ⟨by kernel_rfl, (hs.bel rfl)⟩
theorem over_c  (w0 : World) : Calls prog 51 #[] w0 fun e w' => e = .returned (W Nov) ∧ Below w0.heap.size w0 w' := by
 refine enter (n := 10) (args := []) func51 rfl rfl (Nat.le_of_ble_eq_true rfl) fun ac hs => ?_
 refine wp_seq (wp_region_lit ?_)
 refine stp (op_alloc hs none none (cs := [.int .u64 0, .int .u64 0, .int .u64 0, .int .u64 0]) rfl rfl zeroValue24 (by kernel_rfl) rfl rfl fun g1 ac w hs => ?_)
 refine wpList_nil (then_n (wp_seq (wp_region_lit ?_)))
 refine stp (op_build hs none (qs := []) (v := .agg #[.int .u64 0, .int .u64 0, .int .u64 0, .int .u64 0]) rfl rfl rfl rfl (fun _ => by kernel_rfl) rfl fun ac hs => ?_)
 refine stp (op_call (F := 70) hs none (v := W Nord) rfl rfl rfl rfl (call70 _) order_c rfl fun ac w hs => ?_)
 obtain ⟨d2, hd2, ld2⟩ : ∃ z0, (0 + 2 ^ 256 - Nord) % 2 ^ 256 = z0 ∧ z0 < 2 ^ 256 := ⟨_, rfl, Nat.mod_lt _ (Nat.two_pow_pos 256)⟩
 obtain ⟨c3, hc3⟩ : ∃ z0, bor 0 Nord = z0 := ⟨_, rfl⟩
 refine stp (op_call (F := 71) hs none (v := .tuple #[W d2, nu64 c3]) rfl rfl rfl rfl (call71 _) (fun w => sub_at w 0 Nord d2 c3 (by decide) Nord_lt hd2 hc3) rfl fun ac w hs => ?_)
 refine mvv hs rfl rfl rfl fun ac hs => ?_
 refine stp (xtr hs none rfl rfl rfl rfl rfl fun ac hs => ?_)
 refine stp (xtr hs none rfl rfl rfl rfl rfl fun ac hs => ?_)
 refine stp (op_alloc hs none none (cs := [.int .u64 0, .int .u64 0, .int .u64 0, .int .u64 0]) rfl rfl zeroValue24 (by kernel_rfl) rfl rfl fun g4 ac w hs => ?_)
 refine stp (stoo hs 1 ((Wl d2)) sizeOf24 rfl rfl rfl rfl rfl rfl rfl rfl rfl rfl fun w hs => ?_)
 refine asg hs rfl rfl rfl fun ac hs => ?_
 refine wpList_nil (then_n (wp_seq ?_))
 replace hs := hs.n0 [0, 1] rfl rfl
 refine wp_region_lit ?_
 refine ldd hs 1 (W d2) isAgg24 sizeOf24 rfl rfl rfl rfl rfl fun ac hs => ?_
 refine stp (stoo hs 0 ((Wl d2)) sizeOf24 rfl rfl rfl rfl rfl rfl rfl rfl rfl rfl fun w hs => ?_)
 refine wpList_nil (then_n (wp_ret ?_))
 exact bodyPost_ret (res1 rfl (rv_c hs 0 (v := W d2) rfl rfl isAgg24 sizeOf24 rfl)) hs.defers ⟨by rw [show d2 = Nov from hd2.symm.trans (by decide)], (hs.bel rfl)⟩
theorem red_c (a x : Nat) (ha : a < 2 ^ 256) (hx : a % Nord = x) (w0 : World) : Calls prog 48 #[W a] w0 fun e w' => e = .returned (W x) ∧ Below w0.heap.size w0 w' := by
 refine enter (n := 15) (args := [W a]) func48 rfl rfl (Nat.le_of_ble_eq_true rfl) fun ac hs => ?_
 refine wp_seq (wp_region_lit ?_)
 refine stp (op_box hs none none (cs := (Wl a)) rfl rfl rfl rfl rfl rfl fun g1 ac w hs => ?_)
 refine stp (op_alloc hs none none (cs := [.int .u64 0, .int .u64 0, .int .u64 0, .int .u64 0]) rfl rfl zeroValue24 (by kernel_rfl) rfl rfl fun g2 ac w hs => ?_)
 refine wpList_nil (then_n (wp_seq (wp_seq ?_)))
 replace hs := hs.n0 [1, 2] rfl rfl
 obtain ⟨d3, hd3, ld3⟩ : ∃ z0, (a + 2 ^ 256 - Nord) % 2 ^ 256 = z0 ∧ z0 < 2 ^ 256 := ⟨_, rfl, Nat.mod_lt _ (Nat.two_pow_pos 256)⟩
 obtain ⟨c4, hc4⟩ : ∃ z0, bor a Nord = z0 := ⟨_, rfl⟩
 refine region_inv [([], [2, 3, 4, 5, 7, 8]), ([], [2, 3, 4, 5, 7, 8]), ([0, 1], [3, 4, 5, 7, 8]), ([0, 1, 2], [4, 5, 7, 8]), (rgn 0 4, [7, 8]), (rgn 0 4, [8]), ([], [7, 8]), ([0, 1, 2, 3, 4, 6], [8]), (rgn 0 8, [])] (fun L ac w => ∃ (g5 : Nat), St 15 w0 [(6, L 0, W a), (7, L 1, W Nord), (8, L 2, .tuple #[W d3, nu64 c4]), (5, L 3, .tuple #[W d3, nu64 c4]), (9, L 4, W d3), (10, L 5, nu64 c4), (3, L 6, ptA g5 0), (4, L 8, nu64 c4), (1, true, ptA g1 0), (2, true, ptA g2 0)] [(true, g1, 24, (Wl a)), (true, g2, 24, [.int .u64 0, .int .u64 0, .int .u64 0, .int .u64 0]), (L 6, g5, 24, (cond (L 7) (Wl d3) [.int .u64 0, .int .u64 0, .int .u64 0, .int .u64 0]))] ac w) (by kernel_rfl) (by kernel_rfl) ?_ ?_ ?_
 ·exact ⟨0, hs.drew.skip.skip.skip.skip.skip.skip.skip.skip.pad⟩
 ·refine ⟨?_, ?_, ?_, ?_, ?_, ?_, ?_, ?_, ?_, trivial⟩
  ·exact fun L ac w ⟨g5, hs⟩ => pln (oldd hs 0 0 (W a) isAgg24 sizeOf24 rfl rfl rfl rfl rfl fun ac hs => ⟨g5, hs⟩)
  ·exact fun L ac w ⟨g5, hs⟩ => pln (op_call (F := 70) hs (some 1) (v := W Nord) rfl rfl rfl rfl (call70 _) order_c rfl fun ac w hs => ⟨g5, hs⟩)
  ·exact fun L ac w ⟨g5, hs⟩ => pln (op_call (F := 71) hs (some 2) (v := .tuple #[W d3, nu64 c4]) rfl rfl rfl rfl (call71 _) (fun w => sub_at w a Nord d3 c4 ha Nord_lt hd3 hc4) rfl fun ac w hs => ⟨g5, hs⟩)
  ·exact fun L ac w ⟨g5, hs⟩ => pln (omv hs 3 rfl rfl rfl fun ac hs => ⟨g5, hs⟩)
  ·exact fun L ac w ⟨g5, hs⟩ => pln (xtr hs (some 4) rfl rfl rfl rfl rfl fun ac hs => ⟨g5, hs⟩)
  ·exact fun L ac w ⟨g5, hs⟩ => pln (xtr hs (some 5) rfl rfl rfl rfl rfl fun ac hs => ⟨g5, hs⟩)
  ·exact fun L ac w ⟨g5, hs⟩ => pln (op_alloc hs (some 6) (some 2) (cs := [.int .u64 0, .int .u64 0, .int .u64 0, .int .u64 0]) rfl rfl zeroValue24 (by kernel_rfl) rfl rfl fun g5 ac w hs => ⟨g5, hs⟩)
  ·exact fun L ac w ⟨g5, hs⟩ => pln (stoo hs 2 ((Wl d3)) sizeOf24 rfl rfl rfl rfl rfl rfl rfl rfl rfl rfl fun w hs => ⟨g5, hs⟩)
  ·exact fun L ac w ⟨g5, hs⟩ => pln (oas hs 7 rfl rfl rfl fun ac hs => ⟨g5, hs⟩)
 intro ac w ⟨g5, hs⟩
 try dsimp only [cond_true] at hs
 refine then_n (wp_seq (wp_region_lit ?_))
 refine mvv hs rfl rfl rfl fun ac hs => ?_
 refine bnn hs (.bool (decide (c4 = 0))) rfl rfl rfl rfl (bin_eqlN (y := 0)) fun ac hs => ?_
 refine wpList_nil (then_n ?_)
 refine wp_cond_split (hs.ev rfl) (fun hc => ?_) (fun hc => ?_)
 ·skip
  have hp6 := of_decide_eq_true hc
  refine wp_seq (wp_region_lit ?_)
  refine ldd hs 2 (W d3) isAgg24 sizeOf24 rfl rfl rfl rfl rfl fun ac hs => ?_
  refine stp (stoo hs 1 ((Wl d3)) sizeOf24 rfl rfl rfl rfl rfl rfl rfl rfl rfl rfl fun w hs => ?_)
  refine wpList_nil (then_n (wp_ret (then_r ?_)))
  exact bodyPost_ret (res1 rfl (rv_c hs 1 (v := W d3) rfl rfl isAgg24 sizeOf24 rfl)) hs.defers ⟨by rw [← hx, ← red_yes ha hd3 hc4 hc], (hs.bel rfl)⟩
 ·skip
  have hp7 := of_decide_eq_false hc
  refine wp_skip (then_n (wp_seq (wp_region_lit ?_)))
  refine ldd hs 0 (W a) isAgg24 sizeOf24 rfl rfl rfl rfl rfl fun ac hs => ?_
  refine stp (stoo hs 1 ((Wl a)) sizeOf24 rfl rfl rfl rfl rfl rfl rfl rfl rfl rfl fun w hs => ?_)
  refine wpList_nil (then_n (wp_ret ?_))
  exact bodyPost_ret (res1 rfl (rv_c hs 1 (v := W a) rfl rfl isAgg24 sizeOf24 rfl)) hs.defers ⟨by rw [← hx, ← red_no hc4 hc], (hs.bel rfl)⟩
theorem sadd_c (a b x : Nat) (ha : a < 2 ^ 256) (hb : b < 2 ^ 256) (hx : (a + b) % Nord = x) (w0 : World) : Calls prog 21 #[W a, W b] w0 fun e w' => e = .returned (W x) ∧ Below w0.heap.size w0 w' := by
 refine enter (n := 25) (args := [W a, W b]) func21 rfl rfl (Nat.le_of_ble_eq_true rfl) fun ac hs => ?_
 refine wp_seq (wp_region_lit ?_)
 refine stp (op_box hs none none (cs := (Wl a)) rfl rfl rfl rfl rfl rfl fun g1 ac w hs => ?_)
 refine stp (op_box hs none none (cs := (Wl b)) rfl rfl rfl rfl rfl rfl fun g2 ac w hs => ?_)
 refine stp (op_alloc hs none none (cs := [.int .u64 0, .int .u64 0, .int .u64 0, .int .u64 0]) rfl rfl zeroValue24 (by kernel_rfl) rfl rfl fun g3 ac w hs => ?_)
 refine wpList_nil (then_n (wp_seq ?_))
 replace hs := hs.n0 [2, 3, 4] rfl rfl
 obtain ⟨r4, hr4, lr4⟩ : ∃ z0, a % Nord = z0 ∧ z0 < 2 ^ 256 := ⟨_, rfl, modN_lt _⟩
 obtain ⟨r5, hr5, lr5⟩ : ∃ z0, b % Nord = z0 ∧ z0 < 2 ^ 256 := ⟨_, rfl, modN_lt _⟩
 obtain ⟨s6, hs6, ls6⟩ : ∃ z0, (r4 + r5) % 2 ^ 256 = z0 ∧ z0 < 2 ^ 256 := ⟨_, rfl, Nat.mod_lt _ (Nat.two_pow_pos 256)⟩
 obtain ⟨c7, hc7⟩ : ∃ z0, (r4 + r5) / 2 ^ 256 = z0 := ⟨_, rfl⟩
 refine region_inv [([], [1, 3, 4, 5, 6, 7, 9, 10]), ([0], [3, 4, 5, 6, 7, 9, 10]), ([], [3, 4, 5, 6, 7, 9, 10]), ([0, 1, 2], [4, 5, 6, 7, 9, 10]), (rgn 0 4, [5, 6, 7, 9, 10]), (rgn 0 5, [6, 7, 9, 10]), (rgn 0 6, [9, 10]), (rgn 0 6, [10]), ([], [9, 10]), ([0, 1, 2, 3, 4, 5, 6, 8], [10]), (rgn 0 10, [])] (fun L ac w => ∃ (g8 : Nat), St 25 w0 [(8, L 0, W a), (9, L 1, W r4), (10, L 2, W b), (11, L 3, W r5), (12, L 4, .tuple #[W s6, nu64 c7]), (7, L 5, .tuple #[W s6, nu64 c7]), (13, L 6, W s6), (14, L 7, nu64 c7), (5, L 8, ptA g8 0), (6, L 10, nu64 c7), (2, true, ptA g1 0), (3, true, ptA g2 0), (4, true, ptA g3 0)] [(true, g1, 24, (Wl a)), (true, g2, 24, (Wl b)), (true, g3, 24, [.int .u64 0, .int .u64 0, .int .u64 0, .int .u64 0]), (L 8, g8, 24, (cond (L 9) (Wl s6) [.int .u64 0, .int .u64 0, .int .u64 0, .int .u64 0]))] ac w) (by kernel_rfl) (by kernel_rfl) ?_ ?_ ?_
 ·exact ⟨0, hs.drew.skip.skip.skip.skip.skip.skip.skip.skip.skip.skip.pad⟩
 ·refine ⟨?_, ?_, ?_, ?_, ?_, ?_, ?_, ?_, ?_, ?_, ?_, trivial⟩
  ·exact fun L ac w ⟨g8, hs⟩ => pln (oldd hs 0 0 (W a) isAgg24 sizeOf24 rfl rfl rfl rfl rfl fun ac hs => ⟨g8, hs⟩)
  ·exact fun L ac w ⟨g8, hs⟩ => pln (op_call (F := 48) hs (some 1) (v := W r4) rfl rfl rfl rfl (call48 _) (red_c a r4 ha hr4) rfl fun ac w hs => ⟨g8, hs⟩)
  ·exact fun L ac w ⟨g8, hs⟩ => pln (oldd hs 2 1 (W b) isAgg24 sizeOf24 rfl rfl rfl rfl rfl fun ac hs => ⟨g8, hs⟩)
  ·exact fun L ac w ⟨g8, hs⟩ => pln (op_call (F := 48) hs (some 3) (v := W r5) rfl rfl rfl rfl (call48 _) (red_c b r5 hb hr5) rfl fun ac w hs => ⟨g8, hs⟩)
  ·exact fun L ac w ⟨g8, hs⟩ => pln (op_call (F := 50) hs (some 4) (v := .tuple #[W s6, nu64 c7]) rfl rfl rfl rfl (call50 _) (fun w => add_at w r4 r5 s6 c7 lr4 lr5 hs6 hc7) rfl fun ac w hs => ⟨g8, hs⟩)
  ·exact fun L ac w ⟨g8, hs⟩ => pln (omv hs 5 rfl rfl rfl fun ac hs => ⟨g8, hs⟩)
  ·exact fun L ac w ⟨g8, hs⟩ => pln (xtr hs (some 6) rfl rfl rfl rfl rfl fun ac hs => ⟨g8, hs⟩)
  ·exact fun L ac w ⟨g8, hs⟩ => pln (xtr hs (some 7) rfl rfl rfl rfl rfl fun ac hs => ⟨g8, hs⟩)
  ·exact fun L ac w ⟨g8, hs⟩ => pln (op_alloc hs (some 8) (some 3) (cs := [.int .u64 0, .int .u64 0, .int .u64 0, .int .u64 0]) rfl rfl zeroValue24 (by kernel_rfl) rfl rfl fun g8 ac w hs => ⟨g8, hs⟩)
  ·exact fun L ac w ⟨g8, hs⟩ => pln (stoo hs 3 ((Wl s6)) sizeOf24 rfl rfl rfl rfl rfl rfl rfl rfl rfl rfl fun w hs => ⟨g8, hs⟩)
  ·exact fun L ac w ⟨g8, hs⟩ => pln (oas hs 9 rfl rfl rfl fun ac hs => ⟨g8, hs⟩)
 intro ac w ⟨g8, hs⟩
 try dsimp only [cond_true] at hs
 refine then_n (wp_seq (wp_seq (wp_region_lit ?_)))
 refine mvv hs rfl rfl rfl fun ac hs => ?_
 refine bnn hs (.bool (decide (c7 ≠ 0))) rfl rfl rfl rfl (bin_neqN (y := 0)) fun ac hs => ?_
 refine wpList_nil (then_n ?_)
 refine wp_cond_split (hs.ev rfl) (fun hc => ?_) (fun hc => ?_)
 ·skip
  have hp9 := of_decide_eq_true hc
  replace hs := hs.n0 [4, 5] rfl rfl
  obtain ⟨s10, hs10, ls10⟩ : ∃ z0, (s6 + Nov) % 2 ^ 256 = z0 ∧ z0 < 2 ^ 256 := ⟨_, rfl, Nat.mod_lt _ (Nat.two_pow_pos 256)⟩
  obtain ⟨c11, hc11⟩ : ∃ z0, (s6 + Nov) / 2 ^ 256 = z0 := ⟨_, rfl⟩
  refine region_inv [([], rgn 2 5), ([], rgn 2 5), ([0, 1], rgn 3 4), ([0, 1, 2], [4, 5, 6]), (rgn 0 4, [6]), (rgn 0 4, []), (rgn 0 5, [])] (fun L ac w => St 25 w0 [(18, L 0, W s6), (19, L 1, W Nov), (20, L 2, .tuple #[W s10, nu64 c11]), (17, L 3, .tuple #[W s10, nu64 c11]), (21, L 4, W s10), (22, L 5, nu64 c11), (4, true, ptA g3 0), (5, true, ptA g8 0)] [(true, g1, 24, (Wl a)), (true, g2, 24, (Wl b)), (true, g3, 24, [.int .u64 0, .int .u64 0, .int .u64 0, .int .u64 0]), (true, g8, 24, (cond (L 6) (Wl s10) (Wl s6)))] ac w) (by kernel_rfl) (by kernel_rfl) ?_ ?_ ?_
  ·exact hs.drew.skip.skip.skip.skip.skip.skip
  ·refine ⟨?_, ?_, ?_, ?_, ?_, ?_, ?_, trivial⟩
   ·exact fun L ac w hs => pln (oldd hs 0 3 (W s6) isAgg24 sizeOf24 rfl rfl rfl rfl rfl fun ac hs => hs)
   ·exact fun L ac w hs => pln (op_call (F := 51) hs (some 1) (v := W Nov) rfl rfl rfl rfl (call51 _) over_c rfl fun ac w hs => hs)
   ·exact fun L ac w hs => pln (op_call (F := 50) hs (some 2) (v := .tuple #[W s10, nu64 c11]) rfl rfl rfl rfl (call50 _) (fun w => add_at w s6 Nov s10 c11 ls6 Nov_lt hs10 hc11) rfl fun ac w hs => hs)
   ·exact fun L ac w hs => pln (omv hs 3 rfl rfl rfl fun ac hs => hs)
   ·exact fun L ac w hs => pln (xtr hs (some 4) rfl rfl rfl rfl rfl fun ac hs => hs)
   ·exact fun L ac w hs => pln (xtr hs (some 5) rfl rfl rfl rfl rfl fun ac hs => hs)
   ·exact fun L ac w hs => pln (stoo hs 3 ((Wl s10)) sizeOf24 rfl rfl rfl rfl rfl rfl rfl rfl rfl rfl fun w hs => hs)
  intro ac w hs
  try dsimp only [cond_true] at hs
  refine then_n (wp_seq (wp_region_lit ?_))
  refine ldd hs 3 (W s10) isAgg24 sizeOf24 rfl rfl rfl rfl rfl fun ac hs => ?_
  obtain ⟨r12, hr12, lr12⟩ : ∃ z0, s10 % Nord = z0 ∧ z0 < 2 ^ 256 := ⟨_, rfl, modN_lt _⟩
  refine stp (op_call (F := 48) hs none (v := W r12) rfl rfl rfl rfl (call48 _) (red_c s10 r12 ls10 hr12) rfl fun ac w hs => ?_)
  refine stp (stoo hs 2 ((Wl r12)) sizeOf24 rfl rfl rfl rfl rfl rfl rfl rfl rfl rfl fun w hs => ?_)
  refine wpList_nil (then_n (wp_ret ?_))
  exact bodyPost_ret (res1 rfl (rv_c hs 2 (v := W r12) rfl rfl isAgg24 sizeOf24 rfl)) hs.defers ⟨by subst hr4 hr5; rw [← hx, ← hr12]; rw [add_yes hs6 hc7 hs10 hc], (hs.bel rfl)⟩
 ·skip
  have hp13 := of_decide_eq_false hc
  refine wp_skip (then_n (wp_seq (wp_region_lit ?_)))
  refine ldd hs 3 (W s6) isAgg24 sizeOf24 rfl rfl rfl rfl rfl fun ac hs => ?_
  obtain ⟨r14, hr14, lr14⟩ : ∃ z0, s6 % Nord = z0 ∧ z0 < 2 ^ 256 := ⟨_, rfl, modN_lt _⟩
  refine stp (op_call (F := 48) hs none (v := W r14) rfl rfl rfl rfl (call48 _) (red_c s6 r14 ls6 hr14) rfl fun ac w hs => ?_)
  refine stp (stoo hs 2 ((Wl r14)) sizeOf24 rfl rfl rfl rfl rfl rfl rfl rfl rfl rfl fun w hs => ?_)
  refine wpList_nil (then_n (wp_ret ?_))
  exact bodyPost_ret (res1 rfl (rv_c hs 2 (v := W r14) rfl rfl isAgg24 sizeOf24 rfl)) hs.defers ⟨by subst hr4 hr5; rw [← hx, ← hr14]; rw [add_no hs6 hc7 hc], (hs.bel rfl)⟩
theorem sneg_c (a x : Nat) (ha : a < 2 ^ 256) (hx : (Nord - a % Nord) % Nord = x) (w0 : World) : Calls prog 32 #[W a] w0 fun e w' => e = .returned (W x) ∧ Below w0.heap.size w0 w' := by
 refine enter (n := 14) (args := [W a]) func32 rfl rfl (Nat.le_of_ble_eq_true rfl) fun ac hs => ?_
 refine wp_seq (wp_region_lit ?_)
 refine stp (op_box hs none none (cs := (Wl a)) rfl rfl rfl rfl rfl rfl fun g1 ac w hs => ?_)
 refine stp (op_alloc hs none none (cs := [.int .u64 0, .int .u64 0, .int .u64 0, .int .u64 0]) rfl rfl zeroValue24 (by kernel_rfl) rfl rfl fun g2 ac w hs => ?_)
 refine wpList_nil (then_n (wp_seq ?_))
 replace hs := hs.n0 [1, 2] rfl rfl
 obtain ⟨r3, hr3, lr3⟩ : ∃ z0, a % Nord = z0 ∧ z0 < 2 ^ 256 := ⟨_, rfl, modN_lt _⟩
 obtain ⟨d4, hd4, ld4⟩ : ∃ z0, (Nord + 2 ^ 256 - r3) % 2 ^ 256 = z0 ∧ z0 < 2 ^ 256 := ⟨_, rfl, Nat.mod_lt _ (Nat.two_pow_pos 256)⟩
 obtain ⟨c5, hc5⟩ : ∃ z0, bor Nord r3 = z0 := ⟨_, rfl⟩
 refine region_inv [([], [2, 3, 4, 5, 6, 8, 9]), ([], [2, 3, 4, 5, 6, 8, 9]), ([0, 1], [3, 4, 5, 6, 8, 9]), ([0, 1, 2], [4, 5, 6, 8, 9]), (rgn 0 4, [5, 6, 8, 9]), (rgn 0 5, [8, 9]), (rgn 0 5, [9]), ([], [8, 9]), ([0, 1, 2, 3, 4, 5, 7], [9]), (rgn 0 9, [])] (fun L ac w => ∃ (g6 : Nat), St 14 w0 [(6, L 0, W Nord), (7, L 1, W a), (8, L 2, W r3), (9, L 3, .tuple #[W d4, nu64 c5]), (5, L 4, .tuple #[W d4, nu64 c5]), (10, L 5, W d4), (11, L 6, nu64 c5), (3, L 7, ptA g6 0), (4, L 9, nu64 c5), (1, true, ptA g1 0), (2, true, ptA g2 0)] [(true, g1, 24, (Wl a)), (true, g2, 24, [.int .u64 0, .int .u64 0, .int .u64 0, .int .u64 0]), (L 7, g6, 24, (cond (L 8) (Wl d4) [.int .u64 0, .int .u64 0, .int .u64 0, .int .u64 0]))] ac w) (by kernel_rfl) (by kernel_rfl) ?_ ?_ ?_
 ·exact ⟨0, hs.drew.skip.skip.skip.skip.skip.skip.skip.skip.skip.pad⟩
 ·refine ⟨?_, ?_, ?_, ?_, ?_, ?_, ?_, ?_, ?_, ?_, trivial⟩
  ·exact fun L ac w ⟨g6, hs⟩ => pln (op_call (F := 70) hs (some 0) (v := W Nord) rfl rfl rfl rfl (call70 _) order_c rfl fun ac w hs => ⟨g6, hs⟩)
  ·exact fun L ac w ⟨g6, hs⟩ => pln (oldd hs 1 0 (W a) isAgg24 sizeOf24 rfl rfl rfl rfl rfl fun ac hs => ⟨g6, hs⟩)
  ·exact fun L ac w ⟨g6, hs⟩ => pln (op_call (F := 48) hs (some 2) (v := W r3) rfl rfl rfl rfl (call48 _) (red_c a r3 ha hr3) rfl fun ac w hs => ⟨g6, hs⟩)
  ·exact fun L ac w ⟨g6, hs⟩ => pln (op_call (F := 71) hs (some 3) (v := .tuple #[W d4, nu64 c5]) rfl rfl rfl rfl (call71 _) (fun w => sub_at w Nord r3 d4 c5 Nord_lt lr3 hd4 hc5) rfl fun ac w hs => ⟨g6, hs⟩)
  ·exact fun L ac w ⟨g6, hs⟩ => pln (omv hs 4 rfl rfl rfl fun ac hs => ⟨g6, hs⟩)
  ·exact fun L ac w ⟨g6, hs⟩ => pln (xtr hs (some 5) rfl rfl rfl rfl rfl fun ac hs => ⟨g6, hs⟩)
  ·exact fun L ac w ⟨g6, hs⟩ => pln (xtr hs (some 6) rfl rfl rfl rfl rfl fun ac hs => ⟨g6, hs⟩)
  ·exact fun L ac w ⟨g6, hs⟩ => pln (op_alloc hs (some 7) (some 2) (cs := [.int .u64 0, .int .u64 0, .int .u64 0, .int .u64 0]) rfl rfl zeroValue24 (by kernel_rfl) rfl rfl fun g6 ac w hs => ⟨g6, hs⟩)
  ·exact fun L ac w ⟨g6, hs⟩ => pln (stoo hs 2 ((Wl d4)) sizeOf24 rfl rfl rfl rfl rfl rfl rfl rfl rfl rfl fun w hs => ⟨g6, hs⟩)
  ·exact fun L ac w ⟨g6, hs⟩ => pln (oas hs 8 rfl rfl rfl fun ac hs => ⟨g6, hs⟩)
 intro ac w ⟨g6, hs⟩
 try dsimp only [cond_true] at hs
 refine then_n (wp_seq (wp_region_lit ?_))
 refine ldd hs 2 (W d4) isAgg24 sizeOf24 rfl rfl rfl rfl rfl fun ac hs => ?_
 obtain ⟨r7, hr7, lr7⟩ : ∃ z0, d4 % Nord = z0 ∧ z0 < 2 ^ 256 := ⟨_, rfl, modN_lt _⟩
 refine stp (op_call (F := 48) hs none (v := W r7) rfl rfl rfl rfl (call48 _) (red_c d4 r7 ld4 hr7) rfl fun ac w hs => ?_)
 refine stp (stoo hs 1 ((Wl r7)) sizeOf24 rfl rfl rfl rfl rfl rfl rfl rfl rfl rfl fun w hs => ?_)
 refine wpList_nil (then_n (wp_ret ?_))
 exact bodyPost_ret (res1 rfl (rv_c hs 1 (v := W r7) rfl rfl isAgg24 sizeOf24 rfl)) hs.defers ⟨by subst hr3; rw [← hx, ← hr7, neg_eq hd4], (hs.bel rfl)⟩
theorem smul_c (a b x : Nat) (ha : a < 2 ^ 256) (hb : b < 2 ^ 256) (hx : a * b % Nord = x) (w0 : World) : Calls prog 22 #[W a, W b] w0 fun e w' => e = .returned (W x) ∧ Below w0.heap.size w0 w' := by
 refine enter (n := 42) (args := [W a, W b]) func22 rfl rfl (Nat.le_of_ble_eq_true rfl) fun ac hs => ?_
 refine wp_seq (wp_region_lit ?_)
 refine stp (op_box hs none none (cs := (Wl a)) rfl rfl rfl rfl rfl rfl fun g1 ac w hs => ?_)
 refine stp (op_box hs none none (cs := (Wl b)) rfl rfl rfl rfl rfl rfl fun g2 ac w hs => ?_)
 refine stp (op_alloc hs none none (cs := [.int .u64 0, .int .u64 0, .int .u64 0, .int .u64 0]) rfl rfl zeroValue24 (by kernel_rfl) rfl rfl fun g3 ac w hs => ?_)
 refine wpList_nil (then_n (wp_seq (wp_region_lit ?_)))
 refine ldd hs 0 (W a) isAgg24 sizeOf24 rfl rfl rfl rfl rfl fun ac hs => ?_
 refine ldd hs 1 (W b) isAgg24 sizeOf24 rfl rfl rfl rfl rfl fun ac hs => ?_
 obtain ⟨lo4, hlo4, llo4⟩ : ∃ z0, a * b % 2 ^ 256 = z0 ∧ z0 < 2 ^ 256 := ⟨_, rfl, Nat.mod_lt _ (Nat.two_pow_pos 256)⟩
 obtain ⟨hi5, hhi5, lhi5⟩ : ∃ z0, a * b / 2 ^ 256 = z0 ∧ z0 < 2 ^ 256 := ⟨_, rfl, mul_hi ha hb⟩
 refine stp (op_call (F := 52) hs none (v := .tuple #[W lo4, W hi5]) rfl rfl rfl rfl (call52 _) (fun w => wmul_at w a b lo4 hi5 ha hb hlo4 hhi5) rfl fun ac w hs => ?_)
 refine mvv hs rfl rfl rfl fun ac hs => ?_
 refine stp (xtr hs none rfl rfl rfl rfl rfl fun ac hs => ?_)
 refine stp (xtr hs none rfl rfl rfl rfl rfl fun ac hs => ?_)
 refine stp (op_alloc hs none none (cs := [.int .u64 0, .int .u64 0, .int .u64 0, .int .u64 0]) rfl rfl zeroValue24 (by kernel_rfl) rfl rfl fun g6 ac w hs => ?_)
 refine stp (op_alloc hs none none (cs := [.int .u64 0, .int .u64 0, .int .u64 0, .int .u64 0]) rfl rfl zeroValue24 (by kernel_rfl) rfl rfl fun g7 ac w hs => ?_)
 refine stp (stoo hs 3 ((Wl lo4)) sizeOf24 rfl rfl rfl rfl rfl rfl rfl rfl rfl rfl fun w hs => ?_)
 refine stp (stoo hs 4 ((Wl hi5)) sizeOf24 rfl rfl rfl rfl rfl rfl rfl rfl rfl rfl fun w hs => ?_)
 refine wpList_nil (then_n (wp_seq (wp_block ?_)))
 refine wp_loop_m (fun μ ac w => ∃ (y : Nat) (z : Nat), (y + 2 ^ 256 * z) = μ ∧ (y < 2 ^ 256) ∧ (z < 2 ^ 256) ∧ ((y + 2 ^ 256 * z) % Nord = a * b % Nord) ∧ St 42 w0 [(2, true, ptA g1 0), (3, true, ptA g2 0), (4, true, ptA g3 0), (5, true, ptA g6 0), (6, true, ptA g7 0)] [(true, g1, 24, (Wl a)), (true, g2, 24, (Wl b)), (true, g3, 24, [.int .u64 0, .int .u64 0, .int .u64 0, .int .u64 0]), (true, g6, 24, (Wl y)), (true, g7, 24, (Wl z))] ac w) ?_ ?_
 ·exact ⟨_, lo4, hi5, rfl, llo4, lhi5, (by rw [← hlo4, ← hhi5, Nat.mod_add_div]), (hs.re ⟨rfl, rfl, rfl, rfl, rfl, trivial⟩)⟩
 intro μ ac w ⟨y, z, hμ, ly, lz, hq, hs⟩
 refine wp_seq (wp_seq (wp_region_lit ?_))
 refine ldd hs 4 (W z) isAgg24 sizeOf24 rfl rfl rfl rfl rfl fun ac hs => ?_
 refine stp (op_build hs none (qs := []) (v := .agg #[.int .u64 0, .int .u64 0, .int .u64 0, .int .u64 0]) rfl rfl rfl rfl (fun _ => by kernel_rfl) rfl fun ac hs => ?_)
 refine stp (op_bin hs none (v := .bool (decide (z ≠ 0))) rfl rfl rfl rfl (fun w => run_eqGuard_agg w .neq 24 _ _ _ _ Tryz.eqGuardType24) (neqW z 0 lz (by decide) _ rfl) rfl fun ac hs => ?_)
 refine wpList_nil (then_n ?_)
 refine wp_cond_split (hs.ev rfl) (fun hc => ?_) (fun hc => ?_)
 ·skip
  have hp8 := of_decide_eq_true hc
  refine wp_skip (then_n (wp_block (wp_seq ?_)))
  replace hs := hs.n0 [2, 3, 4, 5, 6] rfl rfl
  obtain ⟨lo9, hlo9, llo9⟩ : ∃ z0, z * Nov % 2 ^ 256 = z0 ∧ z0 < 2 ^ 256 := ⟨_, rfl, Nat.mod_lt _ (Nat.two_pow_pos 256)⟩
  obtain ⟨hi10, hhi10, lhi10⟩ : ∃ z0, z * Nov / 2 ^ 256 = z0 ∧ z0 < 2 ^ 256 := ⟨_, rfl, mul_hi lz Nov_lt⟩
  refine region_inv [([], [2, 3, 4, 5, 8, 9]), ([], [2, 3, 4, 5, 8, 9]), ([0, 1], [3, 4, 5, 8, 9]), ([0, 1, 2], [4, 5, 8, 9]), (rgn 0 4, [8, 9]), (rgn 0 4, [9]), ([], [8, 9]), ([], [8, 9]), ([0, 1, 2, 3, 4, 6, 7], [9]), (rgn 0 9, [])] (fun L ac w => ∃ (g11 : Nat) (g12 : Nat), St 42 w0 [(21, L 0, W z), (22, L 1, W Nov), (23, L 2, .tuple #[W lo9, W hi10]), (20, L 3, .tuple #[W lo9, W hi10]), (24, L 4, W lo9), (25, L 5, W hi10), (7, L 6, ptA g11 0), (8, L 7, ptA g12 0), (2, true, ptA g1 0), (3, true, ptA g2 0), (4, true, ptA g3 0), (5, true, ptA g6 0), (6, true, ptA g7 0)] [(true, g1, 24, (Wl a)), (true, g2, 24, (Wl b)), (true, g3, 24, [.int .u64 0, .int .u64 0, .int .u64 0, .int .u64 0]), (true, g6, 24, (Wl y)), (true, g7, 24, (Wl z)), (L 6, g11, 24, (cond (L 8) (Wl lo9) [.int .u64 0, .int .u64 0, .int .u64 0, .int .u64 0])), (L 7, g12, 24, (cond (L 9) (Wl hi10) [.int .u64 0, .int .u64 0, .int .u64 0, .int .u64 0]))] ac w) (by kernel_rfl) (by kernel_rfl) ?_ ?_ ?_
  ·exact ⟨0, 0, hs.drew.skip.skip.skip.skip.skip.skip.skip.skip.pad.pad⟩
  ·refine ⟨?_, ?_, ?_, ?_, ?_, ?_, ?_, ?_, ?_, ?_, trivial⟩
   ·exact fun L ac w ⟨g11, g12, hs⟩ => pln (oldd hs 0 4 (W z) isAgg24 sizeOf24 rfl rfl rfl rfl rfl fun ac hs => ⟨g11, g12, hs⟩)
   ·exact fun L ac w ⟨g11, g12, hs⟩ => pln (op_call (F := 51) hs (some 1) (v := W Nov) rfl rfl rfl rfl (call51 _) over_c rfl fun ac w hs => ⟨g11, g12, hs⟩)
   ·exact fun L ac w ⟨g11, g12, hs⟩ => pln (op_call (F := 52) hs (some 2) (v := .tuple #[W lo9, W hi10]) rfl rfl rfl rfl (call52 _) (fun w => wmul_at w z Nov lo9 hi10 lz Nov_lt hlo9 hhi10) rfl fun ac w hs => ⟨g11, g12, hs⟩)
   ·exact fun L ac w ⟨g11, g12, hs⟩ => pln (omv hs 3 rfl rfl rfl fun ac hs => ⟨g11, g12, hs⟩)
   ·exact fun L ac w ⟨g11, g12, hs⟩ => pln (xtr hs (some 4) rfl rfl rfl rfl rfl fun ac hs => ⟨g11, g12, hs⟩)
   ·exact fun L ac w ⟨g11, g12, hs⟩ => pln (xtr hs (some 5) rfl rfl rfl rfl rfl fun ac hs => ⟨g11, g12, hs⟩)
   ·exact fun L ac w ⟨g11, g12, hs⟩ => pln (op_alloc hs (some 6) (some 5) (cs := [.int .u64 0, .int .u64 0, .int .u64 0, .int .u64 0]) rfl rfl zeroValue24 (by kernel_rfl) rfl rfl fun g11 ac w hs => ⟨g11, g12, hs⟩)
   ·exact fun L ac w ⟨g11, g12, hs⟩ => pln (op_alloc hs (some 7) (some 6) (cs := [.int .u64 0, .int .u64 0, .int .u64 0, .int .u64 0]) rfl rfl zeroValue24 (by kernel_rfl) rfl rfl fun g12 ac w hs => ⟨g11, g12, hs⟩)
   ·exact fun L ac w ⟨g11, g12, hs⟩ => pln (stoo hs 5 ((Wl lo9)) sizeOf24 rfl rfl rfl rfl rfl rfl rfl rfl rfl rfl fun w hs => ⟨g11, g12, hs⟩)
   ·exact fun L ac w ⟨g11, g12, hs⟩ => pln (stoo hs 6 ((Wl hi10)) sizeOf24 rfl rfl rfl rfl rfl rfl rfl rfl rfl rfl fun w hs => ⟨g11, g12, hs⟩)
  intro ac w ⟨g11, g12, hs⟩
  try dsimp only [cond_true] at hs
  refine then_n (wp_seq (wp_region_lit ?_))
  refine ldd hs 3 (W y) isAgg24 sizeOf24 rfl rfl rfl rfl rfl fun ac hs => ?_
  refine ldd hs 5 (W lo9) isAgg24 sizeOf24 rfl rfl rfl rfl rfl fun ac hs => ?_
  obtain ⟨s13, hs13, ls13⟩ : ∃ z0, (y + lo9) % 2 ^ 256 = z0 ∧ z0 < 2 ^ 256 := ⟨_, rfl, Nat.mod_lt _ (Nat.two_pow_pos 256)⟩
  obtain ⟨c14, hc14⟩ : ∃ z0, (y + lo9) / 2 ^ 256 = z0 := ⟨_, rfl⟩
  refine stp (op_call (F := 50) hs none (v := .tuple #[W s13, nu64 c14]) rfl rfl rfl rfl (call50 _) (fun w => add_at w y lo9 s13 c14 ly llo9 hs13 hc14) rfl fun ac w hs => ?_)
  refine mvv hs rfl rfl rfl fun ac hs => ?_
  refine stp (xtr hs none rfl rfl rfl rfl rfl fun ac hs => ?_)
  refine stp (xtr hs none rfl rfl rfl rfl rfl fun ac hs => ?_)
  refine stp (op_alloc hs none none (cs := [.int .u64 0, .int .u64 0, .int .u64 0, .int .u64 0]) rfl rfl zeroValue24 (by kernel_rfl) rfl rfl fun g15 ac w hs => ?_)
  refine stp (stoo hs 7 ((Wl s13)) sizeOf24 rfl rfl rfl rfl rfl rfl rfl rfl rfl rfl fun w hs => ?_)
  refine asg hs rfl rfl rfl fun ac hs => ?_
  refine wpList_nil (then_n (wp_seq ?_))
  replace hs := hs.n0 [2, 3, 4, 5, 6, 8, 9, 10] rfl rfl
  refine wp_region_lit ?_
  refine ldd hs 7 (W s13) isAgg24 sizeOf24 rfl rfl rfl rfl rfl fun ac hs => ?_
  refine stp (stoo hs 3 ((Wl s13)) sizeOf24 rfl rfl rfl rfl rfl rfl rfl rfl rfl rfl fun w hs => ?_)
  refine wpList_nil (then_n ?_)
  replace hs := hs.n0 [2, 3, 4, 5, 6, 8, 10] rfl rfl
  obtain ⟨s16, hs16, ls16⟩ : ∃ z0, (hi10 + c14) % 2 ^ 256 = z0 ∧ z0 < 2 ^ 256 := ⟨_, rfl, Nat.mod_lt _ (Nat.two_pow_pos 256)⟩
  obtain ⟨c17, hc17⟩ : ∃ z0, (hi10 + c14) / 2 ^ 256 = z0 := ⟨_, rfl⟩
  refine region_inv [([], rgn 3 5), ([], rgn 2 6), ([1], rgn 3 5), ([0, 1, 2], rgn 4 4), (rgn 0 4, [5, 6, 7]), (rgn 0 5, [7]), (rgn 0 5, []), (rgn 0 6, [])] (fun L ac w => St 42 w0 [(34, L 0, W hi10), (35, L 1, nu64 c14), (36, L 2, W c14), (37, L 3, .tuple #[W s16, nu64 c17]), (33, L 4, .tuple #[W s16, nu64 c17]), (38, L 5, W s16), (39, L 6, nu64 c17), (2, true, ptA g1 0), (3, true, ptA g2 0), (4, true, ptA g3 0), (5, true, ptA g6 0), (6, true, ptA g7 0), (8, true, ptA g12 0), (10, true, nu64 c14)] [(true, g1, 24, (Wl a)), (true, g2, 24, (Wl b)), (true, g3, 24, [.int .u64 0, .int .u64 0, .int .u64 0, .int .u64 0]), (true, g6, 24, (Wl s13)), (true, g7, 24, (cond (L 7) (Wl s16) (Wl z))), (true, g11, 24, (Wl lo9)), (true, g12, 24, (Wl hi10)), (true, g15, 24, (Wl s13))] ac w) (by kernel_rfl) (by kernel_rfl) ?_ ?_ ?_
  ·exact hs.drew.skip.skip.skip.skip.skip.skip.skip
  ·refine ⟨?_, ?_, ?_, ?_, ?_, ?_, ?_, ?_, trivial⟩
   ·exact fun L ac w hs => pln (oldd hs 0 6 (W hi10) isAgg24 sizeOf24 rfl rfl rfl rfl rfl fun ac hs => hs)
   ·exact fun L ac w hs => pln (omv hs 1 rfl rfl rfl fun ac hs => hs)
   ·exact fun L ac w hs => pln (op_call (F := 45) hs (some 2) (v := W c14) rfl rfl rfl rfl (call45 _) (fun w => from_any w c14 (c_lt64 hc14 ly llo9)) rfl fun ac w hs => hs)
   ·exact fun L ac w hs => pln (op_call (F := 50) hs (some 3) (v := .tuple #[W s16, nu64 c17]) rfl rfl rfl rfl (call50 _) (fun w => add_at w hi10 c14 s16 c17 lhi10 (c_lt256 hc14 ly llo9) hs16 hc17) rfl fun ac w hs => hs)
   ·exact fun L ac w hs => pln (omv hs 4 rfl rfl rfl fun ac hs => hs)
   ·exact fun L ac w hs => pln (xtr hs (some 5) rfl rfl rfl rfl rfl fun ac hs => hs)
   ·exact fun L ac w hs => pln (xtr hs (some 6) rfl rfl rfl rfl rfl fun ac hs => hs)
   ·exact fun L ac w hs => pln (stoo hs 4 ((Wl s16)) sizeOf24 rfl rfl rfl rfl rfl rfl rfl rfl rfl rfl fun w hs => hs)
  intro ac w hs
  try dsimp only [cond_true] at hs
  refine blk_n (then_n ?_)
  have hF := fold_eq lz hlo9 hhi10 hs13 hc14 hs16 ly
  exact ⟨_, ⟨s13, s16, rfl, ls13, ls16, ((fold_mod hF).trans hq), ((hs.takeb 5).re ⟨rfl, rfl, rfl, rfl, rfl, trivial⟩)⟩, (by have := fold_less hF (of_decide_eq_true hc); omega)⟩
 ·skip
  have hp18 := of_decide_eq_false hc
  refine wp_exit (then_e (then_e (blk_e (then_n (wp_seq (wp_region_lit ?_))))))
  refine ldd hs 3 (W y) isAgg24 sizeOf24 rfl rfl rfl rfl rfl fun ac hs => ?_
  obtain ⟨r19, hr19, lr19⟩ : ∃ z0, y % Nord = z0 ∧ z0 < 2 ^ 256 := ⟨_, rfl, modN_lt _⟩
  refine stp (op_call (F := 48) hs none (v := W r19) rfl rfl rfl rfl (call48 _) (red_c y r19 ly hr19) rfl fun ac w hs => ?_)
  refine stp (stoo hs 2 ((Wl r19)) sizeOf24 rfl rfl rfl rfl rfl rfl rfl rfl rfl rfl fun w hs => ?_)
  refine wpList_nil (then_n (wp_ret ?_))
  exact bodyPost_ret (res1 rfl (rv_c hs 2 (v := W r19) rfl rfl isAgg24 sizeOf24 rfl)) hs.defers ⟨by have hz := of_decide_eq_false hc; have hz : z = 0 := Classical.not_not.1 hz; subst hz; rw [← hx, ← hr19, ← hq]; rfl, (hs.bel rfl)⟩
end Go.Proofs.YtejbajgpiecjcaaGreat

/- The contracts of the reference's Less and More. -/
namespace Go.Proofs.YtejbajgpiecjcaaGreat
open Go.RowKit _root_.Go.Proofs.Tryz
set_option maxRecDepth 10000
theorem less_at (a b d q : Nat) (ha : a < 2 ^ 256) (hb : b < 2 ^ 256) (hd : (a + 2 ^ 256 - b) % 2 ^ 256 = d) (hc' : bor a b = q) (w0 : World) : Calls prog 60 #[W a, W b] w0 fun e w' => e = .returned (.tuple #[W d, nu64 q]) ∧ Below w0.heap.size w0 w' := by
 refine enter (n := 47) (args := [W a, W b]) func60 rfl rfl (Nat.le_of_ble_eq_true rfl) fun ac hs => ?_
 refine wp_seq (wp_region_lit ?_)
 refine stp (op_box hs none none (cs := (Wl a)) rfl rfl rfl rfl rfl rfl fun g1 ac w hs => ?_)
 refine stp (op_box hs none none (cs := (Wl b)) rfl rfl rfl rfl rfl rfl fun g2 ac w hs => ?_)
 refine stp (op_alloc hs none none (cs := [.int .u64 0, .int .u64 0, .int .u64 0, .int .u64 0]) rfl rfl zeroValue24 (by kernel_rfl) rfl rfl fun g3 ac w hs => ?_)
 refine asg hs rfl rfl rfl fun ac hs => ?_
 refine wpList_nil (then_n (wp_seq (wp_region_lit ?_)))
 refine stp (op_build hs none (qs := []) (v := .agg #[.int .u64 0, .int .u64 0, .int .u64 0, .int .u64 0]) rfl rfl rfl rfl (fun _ => by kernel_rfl) rfl fun ac hs => ?_)
 refine stp (op_alloc hs none none (cs := [.int .u64 0, .int .u64 0, .int .u64 0, .int .u64 0]) rfl rfl zeroValue24 (by kernel_rfl) rfl rfl fun g4 ac w hs => ?_)
 refine stp (stoo hs 3 ([.int .u64 0, .int .u64 0, .int .u64 0, .int .u64 0]) sizeOf24 rfl rfl rfl rfl rfl rfl rfl rfl rfl rfl fun w hs => ?_)
 refine wpList_nil (then_n (wp_seq ?_))
 replace hs := hs.n0 [2, 3, 4, 5, 6] rfl rfl
 refine wp_region_lit ?_
 refine asg hs rfl rfl rfl fun ac hs => ?_
 refine wpList_nil (then_n (wp_seq (wp_seq (wp_region_lit ?_))))
 refine asg hs rfl rfl rfl fun ac hs => ?_
 refine wpList_nil (then_n (wp_block ?_))
 refine wp_loop_m (fun μ ac w => ∃ (k : Nat) (c : Nat) (f : Nat → Nat), (4 - k) = μ ∧ (k ≤ 4) ∧ (c = brw a b k) ∧ (∀ j, j < k → f j = limN (a + 2 ^ 256 - b) j) ∧ St 47 w0 [(2, true, ptA g1 0), (3, true, ptA g2 0), (4, true, ptA g3 0), (6, true, ptA g4 0), (7, true, nu64 c), (8, true, ni64 k)] [(true, g1, 24, (Wl a)), (true, g2, 24, (Wl b)), (true, g3, 24, [.int .u64 0, .int .u64 0, .int .u64 0, .int .u64 0]), (true, g4, 24, (tab .u64 4 f))] ac w) ?_ ?_
 ·exact ⟨_, 0, 0, (fun _ => 0), rfl, (by omega), (brw_zero a b).symm, (fun j hj => by omega), (hs.re ⟨rfl, rfl, rfl, rfl, rfl, rfl, trivial⟩)⟩
 intro μ ac w ⟨k, c, f, hμ, hk, hcb, hf, hs⟩
 have hc0 : c ≤ 1 := by rw [hcb]; exact brw_le a b k
 refine wp_seq (wp_seq (wp_region_lit ?_))
 refine mvv hs rfl rfl rfl fun ac hs => ?_
 refine bnn hs (.bool (decide (k < 4))) rfl rfl rfl rfl (bin_lssN (y := 4)) fun ac hs => ?_
 refine wpList_nil (then_n ?_)
 refine wp_cond_split (hs.ev rfl) (fun hc => ?_) (fun hc => ?_)
 ·skip
  have hp5 := of_decide_eq_true hc
  have hlt : k < 4 := of_decide_eq_true hc
  refine wp_skip (then_n (wp_seq (wp_block (wp_seq ?_))))
  replace hs := hs.n0 [2, 3, 4, 6, 7, 8] rfl rfl
  have l6 := limN_lt a k
  have l7 := limN_lt b k
  refine region_inv [([], [10, 11]), ([], [2, 3, 7, 9, 10, 11]), ([1], [3, 7, 9, 10, 11]), ([1, 2], [7, 9, 10, 11]), ([], [5, 6, 7, 9, 10, 11]), ([4], [6, 7, 9, 10, 11]), ([4, 5], [7, 9, 10, 11]), (rgn 1 6, [9, 10, 11]), ([], [9, 10, 11]), (rgn 1 8, [10, 11]), (rgn 0 10, [11]), (rgn 0 11, [])] (fun L ac w => St 47 w0 [(14, L 0, ni64 k), (15, L 1, ni64 k), (16, L 2, .pointer (some ⟨g1, k, none⟩)), (17, L 3, nu64 (limN a k)), (18, L 4, ni64 k), (19, L 5, .pointer (some ⟨g2, k, none⟩)), (20, L 6, nu64 (limN b k)), (21, L 7, nu64 ((limN a k + 18446744073709551616 - (limN b k)) % 18446744073709551616)), (22, L 8, nu64 c), (23, L 9, .int .u64 ((((limN a k + 18446744073709551616 - (limN b k)) % 18446744073709551616 + 18446744073709551616 - c) % 18446744073709551616 : Nat) : Int)), (24, L 10, .pointer (some ⟨g4, k, none⟩)), (2, true, ptA g1 0), (3, true, ptA g2 0), (4, true, ptA g3 0), (6, true, ptA g4 0), (7, true, nu64 c), (8, true, ni64 k)] [(true, g1, 24, (Wl a)), (true, g2, 24, (Wl b)), (true, g3, 24, [.int .u64 0, .int .u64 0, .int .u64 0, .int .u64 0]), (true, g4, 24, (cond (L 11) (tab .u64 4 (upn f k (((limN a k + 18446744073709551616 - (limN b k)) % 18446744073709551616 + 18446744073709551616 - c) % 18446744073709551616))) (tab .u64 4 f)))] ac w) (by kernel_rfl) (by kernel_rfl) ?_ ?_ ?_
  ·exact hs.drew.skip.skip.skip.skip.skip.skip.skip.skip.skip.skip.skip
  ·refine ⟨?_, ?_, ?_, ?_, ?_, ?_, ?_, ?_, ?_, ?_, ?_, ?_, trivial⟩
   ·exact fun L ac w hs => pln (omv hs 0 rfl rfl rfl fun ac hs => hs)
   ·exact fun L ac w hs => pln (omv hs 1 rfl rfl rfl fun ac hs => hs)
   ·exact fun L ac w hs => pln (op_idxA hs (some 2) (j := k) rfl rfl rfl rfl underlying24 sizeOf22 (show k < 4 by omega) (off := k) (by omega) rfl fun ac hs => hs)
   ·exact fun L ac w hs => pln (oldd hs 3 0 (nu64 (limN a k)) isAgg22 sizeOf22 rfl rfl rfl rfl (Wl_get (j := k) (show k < 4 by omega)) fun ac hs => hs)
   ·exact fun L ac w hs => pln (omv hs 4 rfl rfl rfl fun ac hs => hs)
   ·exact fun L ac w hs => pln (op_idxA hs (some 5) (j := k) rfl rfl rfl rfl underlying24 sizeOf22 (show k < 4 by omega) (off := k) (by omega) rfl fun ac hs => hs)
   ·exact fun L ac w hs => pln (oldd hs 6 1 (nu64 (limN b k)) isAgg22 sizeOf22 rfl rfl rfl rfl (Wl_get (j := k) (show k < 4 by omega)) fun ac hs => hs)
   ·exact fun L ac w hs => pln (obn hs 7 (nu64 ((limN a k + 18446744073709551616 - (limN b k)) % 18446744073709551616)) rfl rfl rfl rfl (bin_subM rfl rfl (show limN b k ≤ 18446744073709551616 by omega)) fun ac hs => hs)
   ·exact fun L ac w hs => pln (omv hs 8 rfl rfl rfl fun ac hs => hs)
   ·exact fun L ac w hs => pln (obn hs 9 (.int .u64 ((((limN a k + 18446744073709551616 - (limN b k)) % 18446744073709551616 + 18446744073709551616 - c) % 18446744073709551616 : Nat) : Int)) rfl rfl rfl rfl (bin_subM (z := ((limN a k + 18446744073709551616 - (limN b k)) % 18446744073709551616 + 18446744073709551616 - c) % 18446744073709551616) rfl rfl (show c ≤ 18446744073709551616 by omega)) fun ac hs => hs)
   ·exact fun L ac w hs => pln (op_idxA hs (some 10) (j := k) rfl rfl rfl rfl underlying24 sizeOf22 (show k < 4 by omega) (off := k) (by omega) rfl fun ac hs => hs)
   ·exact fun L ac w hs => pln (stoo hs 3 ([.int .u64 ((((limN a k + 18446744073709551616 - (limN b k)) % 18446744073709551616 + 18446744073709551616 - c) % 18446744073709551616 : Nat) : Int)]) sizeOf22 rfl rfl rfl rfl rfl rfl rfl rfl (tab_le (j := k) (show k < 4 by omega)) (tab_set) fun w hs => hs)
  intro ac w hs
  try dsimp only [cond_true] at hs
  refine then_n (wp_seq ?_)
  by_cases hq8 : limN a k < limN b k
  ·skip
   replace hs := hs.n0 [2, 3, 4, 6, 7, 8] rfl rfl
   have l9 := limN_lt a k
   have l10 := limN_lt b k
   refine region_inv [([], [1, 2, 6, 7, 8, 9, 10, 11, 12, 13, 14, 15, 16, 17, 18, 19]), ([0], [2, 6, 7, 8, 9, 10, 11, 12, 13, 14, 15, 16, 17, 18, 19]), ([0, 1], rgn 6 14), ([], rgn 4 16), ([3], rgn 5 15), ([3, 4], rgn 6 14), (rgn 0 6, rgn 7 13), (rgn 0 7, rgn 8 12), (rgn 0 8, [9, 10, 14, 15, 16, 17, 18, 19]), (rgn 0 9, [10, 14, 15, 16, 17, 18, 19]), (rgn 0 10, rgn 14 6), (rgn 0 8, rgn 12 8), ([0, 1, 2, 3, 4, 5, 6, 7, 11], rgn 13 7), ([0, 1, 2, 3, 4, 5, 6, 7, 11, 12], rgn 14 6), (rgn 0 14, rgn 15 5), (rgn 0 15, rgn 16 4), (rgn 0 16, [17, 18, 19]), (rgn 0 17, [18, 19]), (rgn 0 18, [19]), (rgn 0 19, [])] (fun L ac w => St 47 w0 [(25, L 0, ni64 k), (26, L 1, .pointer (some ⟨g1, k, none⟩)), (27, L 2, nu64 (limN a k)), (28, L 3, ni64 k), (29, L 4, .pointer (some ⟨g2, k, none⟩)), (30, L 5, nu64 (limN b k)), (31, L 6, .bool true), (32, L 7, .bool true), (33, L 8, undef), (34, L 9, undef), (35, L 10, undef), (36, L 11, undef), (37, L 12, undef), (38, L 13, undef), (39, L 14, undef), (40, L 15, undef), (41, L 16, undef), (42, L 17, undef), (43, L 18, undef), (44, L 19, .bool true), (2, true, ptA g1 0), (3, true, ptA g2 0), (4, true, ptA g3 0), (6, true, ptA g4 0), (7, true, nu64 c), (8, true, ni64 k)] [(true, g1, 24, (Wl a)), (true, g2, 24, (Wl b)), (true, g3, 24, [.int .u64 0, .int .u64 0, .int .u64 0, .int .u64 0]), (true, g4, 24, (tab .u64 4 (upn f k (((limN a k + 18446744073709551616 - (limN b k)) % 18446744073709551616 + 18446744073709551616 - c) % 18446744073709551616))))] ac w) (by kernel_rfl) (by kernel_rfl) ?_ ?_ ?_
   ·exact hs.drew.skip.skip.skip.skip.skip.skip.skip.skip.skip.skip.skip.skip.skip.skip.skip.skip.skip.skip.skip.skip
   ·refine ⟨?_, ?_, ?_, ?_, ?_, ?_, ?_, ?_, ?_, ?_, ?_, ?_, ?_, ?_, ?_, ?_, ?_, ?_, ?_, ?_, trivial⟩
    ·exact fun L ac w hs => pln (omv hs 0 rfl rfl rfl fun ac hs => hs)
    ·exact fun L ac w hs => pln (op_idxA hs (some 1) (j := k) rfl rfl rfl rfl underlying24 sizeOf22 (show k < 4 by omega) (off := k) (by omega) rfl fun ac hs => hs)
    ·exact fun L ac w hs => pln (oldd hs 2 0 (nu64 (limN a k)) isAgg22 sizeOf22 rfl rfl rfl rfl (Wl_get (j := k) (show k < 4 by omega)) fun ac hs => hs)
    ·exact fun L ac w hs => pln (omv hs 3 rfl rfl rfl fun ac hs => hs)
    ·exact fun L ac w hs => pln (op_idxA hs (some 4) (j := k) rfl rfl rfl rfl underlying24 sizeOf22 (show k < 4 by omega) (off := k) (by omega) rfl fun ac hs => hs)
    ·exact fun L ac w hs => pln (oldd hs 5 1 (nu64 (limN b k)) isAgg22 sizeOf22 rfl rfl rfl rfl (Wl_get (j := k) (show k < 4 by omega)) fun ac hs => hs)
    ·exact fun L ac w hs => pln (obn hs 6 (.bool true) rfl rfl rfl rfl (fun w => dT hq8 (bin_lssN w)) fun ac hs => hs)
    ·exact fun L ac w hs => pln (omv hs 7 rfl rfl rfl fun ac hs => hs)
    ·intro L ac w hs
     refine wpO_out hs (some 8) rfl rfl (.inl rfl) rfl rfl fun ac hs => ?_
     exact hs
    ·intro L ac w hs
     refine wpO_out hs (some 9) rfl rfl (.inl rfl) rfl rfl fun ac hs => ?_
     exact hs
    ·intro L ac w hs
     refine wpO_out hs (some 10) rfl rfl (.inl rfl) rfl rfl fun ac hs => ?_
     exact hs
    ·intro L ac w hs
     refine wpO_out hs (some 11) rfl rfl (.inl rfl) rfl rfl fun ac hs => ?_
     exact hs
    ·intro L ac w hs
     refine wpO_out hs (some 12) rfl rfl (.inl rfl) rfl rfl fun ac hs => ?_
     exact hs
    ·intro L ac w hs
     refine wpO_out hs (some 13) rfl rfl (.inl rfl) rfl rfl fun ac hs => ?_
     exact hs
    ·intro L ac w hs
     refine wpO_out hs (some 14) rfl rfl (.inl rfl) rfl rfl fun ac hs => ?_
     exact hs
    ·intro L ac w hs
     refine wpO_out hs (some 15) rfl rfl (.inl rfl) rfl rfl fun ac hs => ?_
     exact hs
    ·intro L ac w hs
     refine wpO_out hs (some 16) rfl rfl (.inr rfl) rfl rfl fun ac hs => ?_
     exact hs
    ·intro L ac w hs
     refine wpO_out hs (some 17) rfl rfl (.inr rfl) rfl rfl fun ac hs => ?_
     exact hs
    ·intro L ac w hs
     refine wpO_out hs (some 18) rfl rfl (.inl rfl) rfl rfl fun ac hs => ?_
     exact hs
    ·exact fun L ac w hs => pln (op_pickT hs (some 19) rfl rfl rfl rfl rfl fun ac hs => hs)
   intro ac w hs
   try dsimp only [cond_true] at hs
   refine then_n ?_
   refine wp_cond_true (hs.ev rfl) ?_
   refine wp_region_lit ?_
   refine asg hs rfl rfl rfl fun ac hs => ?_
   refine wpList_nil (blk_n (then_n (wp_region_lit ?_)))
   refine mvv hs rfl rfl rfl fun ac hs => ?_
   refine bnn hs (ni64 (k + 1)) rfl rfl rfl rfl (bin_addN (y := 1) rfl (show k + 1 < 9223372036854775808 by omega)) fun ac hs => ?_
   refine asg hs rfl rfl rfl fun ac hs => ?_
   refine wpList_nil (then_n ?_)
   exact ⟨_, ⟨(k + 1), 1, (upn f k (((limN a k + 18446744073709551616 - (limN b k)) % 18446744073709551616 + 18446744073709551616 - c) % 18446744073709551616)), rfl, hlt, (less_c hc0 hcb (by split <;> omega)), (less_f hb hlt hc0 hcb hf), (hs.re ⟨rfl, rfl, rfl, rfl, rfl, rfl, trivial⟩)⟩, (by omega)⟩
  ·skip
   by_cases hq11 : limN a k = limN b k
   ·skip
    by_cases hq12 : c = 1
    ·skip
     replace hs := hs.n0 [2, 3, 4, 6, 7, 8] rfl rfl
     have l13 := limN_lt a k
     have l14 := limN_lt b k
     have l15 := limN_lt a k
     have l16 := limN_lt b k
     refine region_inv [([], [1, 2, 6, 7, 8, 9, 10, 11, 12, 13, 14, 15, 16, 17, 18, 19]), ([0], [2, 6, 7, 8, 9, 10, 11, 12, 13, 14, 15, 16, 17, 18, 19]), ([0, 1], rgn 6 14), ([], rgn 4 16), ([3], rgn 5 15), ([3, 4], rgn 6 14), (rgn 0 6, rgn 7 13), (rgn 0 7, rgn 8 12), (rgn 0 8, [9, 10, 14, 15, 16, 17, 18, 19]), (rgn 0 9, [10, 14, 15, 16, 17, 18, 19]), (rgn 0 10, rgn 14 6), (rgn 0 8, rgn 12 8), ([0, 1, 2, 3, 4, 5, 6, 7, 11], rgn 13 7), ([0, 1, 2, 3, 4, 5, 6, 7, 11, 12], rgn 14 6), (rgn 0 14, rgn 15 5), (rgn 0 15, rgn 16 4), (rgn 0 16, [17, 18, 19]), (rgn 0 17, [18, 19]), (rgn 0 18, [19]), (rgn 0 19, [])] (fun L ac w => St 47 w0 [(25, L 0, ni64 k), (26, L 1, .pointer (some ⟨g1, k, none⟩)), (27, L 2, nu64 (limN a k)), (28, L 3, ni64 k), (29, L 4, .pointer (some ⟨g2, k, none⟩)), (30, L 5, nu64 (limN b k)), (31, L 6, .bool false), (32, L 7, .bool false), (33, L 8, ni64 k), (34, L 9, .pointer (some ⟨g1, k, none⟩)), (35, L 10, nu64 (limN a k)), (36, L 11, ni64 k), (37, L 12, .pointer (some ⟨g2, k, none⟩)), (38, L 13, nu64 (limN b k)), (39, L 14, .bool true), (40, L 15, .bool true), (41, L 16, nu64 c), (42, L 17, .bool true), (43, L 18, .bool true), (44, L 19, .bool true), (2, true, ptA g1 0), (3, true, ptA g2 0), (4, true, ptA g3 0), (6, true, ptA g4 0), (7, true, nu64 c), (8, true, ni64 k)] [(true, g1, 24, (Wl a)), (true, g2, 24, (Wl b)), (true, g3, 24, [.int .u64 0, .int .u64 0, .int .u64 0, .int .u64 0]), (true, g4, 24, (tab .u64 4 (upn f k (((limN a k + 18446744073709551616 - (limN b k)) % 18446744073709551616 + 18446744073709551616 - c) % 18446744073709551616))))] ac w) (by kernel_rfl) (by kernel_rfl) ?_ ?_ ?_
     ·exact hs.drew.skip.skip.skip.skip.skip.skip.skip.skip.skip.skip.skip.skip.skip.skip.skip.skip.skip.skip.skip.skip
     ·refine ⟨?_, ?_, ?_, ?_, ?_, ?_, ?_, ?_, ?_, ?_, ?_, ?_, ?_, ?_, ?_, ?_, ?_, ?_, ?_, ?_, trivial⟩
      ·exact fun L ac w hs => pln (omv hs 0 rfl rfl rfl fun ac hs => hs)
      ·exact fun L ac w hs => pln (op_idxA hs (some 1) (j := k) rfl rfl rfl rfl underlying24 sizeOf22 (show k < 4 by omega) (off := k) (by omega) rfl fun ac hs => hs)
      ·exact fun L ac w hs => pln (oldd hs 2 0 (nu64 (limN a k)) isAgg22 sizeOf22 rfl rfl rfl rfl (Wl_get (j := k) (show k < 4 by omega)) fun ac hs => hs)
      ·exact fun L ac w hs => pln (omv hs 3 rfl rfl rfl fun ac hs => hs)
      ·exact fun L ac w hs => pln (op_idxA hs (some 4) (j := k) rfl rfl rfl rfl underlying24 sizeOf22 (show k < 4 by omega) (off := k) (by omega) rfl fun ac hs => hs)
      ·exact fun L ac w hs => pln (oldd hs 5 1 (nu64 (limN b k)) isAgg22 sizeOf22 rfl rfl rfl rfl (Wl_get (j := k) (show k < 4 by omega)) fun ac hs => hs)
      ·exact fun L ac w hs => pln (obn hs 6 (.bool false) rfl rfl rfl rfl (fun w => dF hq8 (bin_lssN w)) fun ac hs => hs)
      ·exact fun L ac w hs => pln (omv hs 7 rfl rfl rfl fun ac hs => hs)
      ·exact fun L ac w hs => wpO_in hs rfl rfl rfl (omv hs 8 rfl rfl rfl fun ac hs => hs)
      ·exact fun L ac w hs => wpO_in hs rfl rfl rfl (op_idxA hs (some 9) (j := k) rfl rfl rfl rfl underlying24 sizeOf22 (show k < 4 by omega) (off := k) (by omega) rfl fun ac hs => hs)
      ·exact fun L ac w hs => wpO_in hs rfl rfl rfl (oldd hs 10 0 (nu64 (limN a k)) isAgg22 sizeOf22 rfl rfl rfl rfl (Wl_get (j := k) (show k < 4 by omega)) fun ac hs => hs)
      ·exact fun L ac w hs => wpO_in hs rfl rfl rfl (omv hs 11 rfl rfl rfl fun ac hs => hs)
      ·exact fun L ac w hs => wpO_in hs rfl rfl rfl (op_idxA hs (some 12) (j := k) rfl rfl rfl rfl underlying24 sizeOf22 (show k < 4 by omega) (off := k) (by omega) rfl fun ac hs => hs)
      ·exact fun L ac w hs => wpO_in hs rfl rfl rfl (oldd hs 13 1 (nu64 (limN b k)) isAgg22 sizeOf22 rfl rfl rfl rfl (Wl_get (j := k) (show k < 4 by omega)) fun ac hs => hs)
      ·exact fun L ac w hs => wpO_in hs rfl rfl rfl (obn hs 14 (.bool true) rfl rfl rfl rfl (fun w => dT hq11 (bin_eqlN w)) fun ac hs => hs)
      ·exact fun L ac w hs => wpO_in hs rfl rfl rfl (omv hs 15 rfl rfl rfl fun ac hs => hs)
      ·exact fun L ac w hs => wpO_in hs rfl rfl rfl (omv hs 16 rfl rfl rfl fun ac hs => hs)
      ·exact fun L ac w hs => wpO_in hs rfl rfl rfl (obn hs 17 (.bool true) rfl rfl rfl rfl (fun w => dT hq12 (bin_eqlN (y := 1) w)) fun ac hs => hs)
      ·exact fun L ac w hs => wpO_in hs rfl rfl rfl (op_pickT hs (some 18) rfl rfl rfl rfl rfl fun ac hs => hs)
      ·exact fun L ac w hs => pln (op_pickF hs (some 19) rfl rfl rfl rfl rfl fun ac hs => hs)
     intro ac w hs
     try dsimp only [cond_true] at hs
     refine then_n ?_
     refine wp_cond_true (hs.ev rfl) ?_
     refine wp_region_lit ?_
     refine asg hs rfl rfl rfl fun ac hs => ?_
     refine wpList_nil (blk_n (then_n (wp_region_lit ?_)))
     refine mvv hs rfl rfl rfl fun ac hs => ?_
     refine bnn hs (ni64 (k + 1)) rfl rfl rfl rfl (bin_addN (y := 1) rfl (show k + 1 < 9223372036854775808 by omega)) fun ac hs => ?_
     refine asg hs rfl rfl rfl fun ac hs => ?_
     refine wpList_nil (then_n ?_)
     exact ⟨_, ⟨(k + 1), 1, (upn f k (((limN a k + 18446744073709551616 - (limN b k)) % 18446744073709551616 + 18446744073709551616 - c) % 18446744073709551616)), rfl, hlt, (less_c hc0 hcb (by split <;> omega)), (less_f hb hlt hc0 hcb hf), (hs.re ⟨rfl, rfl, rfl, rfl, rfl, rfl, trivial⟩)⟩, (by omega)⟩
    ·skip
     replace hs := hs.n0 [2, 3, 4, 6, 7, 8] rfl rfl
     have l17 := limN_lt a k
     have l18 := limN_lt b k
     have l19 := limN_lt a k
     have l20 := limN_lt b k
     refine region_inv [([], [1, 2, 6, 7, 8, 9, 10, 11, 12, 13, 14, 15, 16, 17, 18, 19]), ([0], [2, 6, 7, 8, 9, 10, 11, 12, 13, 14, 15, 16, 17, 18, 19]), ([0, 1], rgn 6 14), ([], rgn 4 16), ([3], rgn 5 15), ([3, 4], rgn 6 14), (rgn 0 6, rgn 7 13), (rgn 0 7, rgn 8 12), (rgn 0 8, [9, 10, 14, 15, 16, 17, 18, 19]), (rgn 0 9, [10, 14, 15, 16, 17, 18, 19]), (rgn 0 10, rgn 14 6), (rgn 0 8, rgn 12 8), ([0, 1, 2, 3, 4, 5, 6, 7, 11], rgn 13 7), ([0, 1, 2, 3, 4, 5, 6, 7, 11, 12], rgn 14 6), (rgn 0 14, rgn 15 5), (rgn 0 15, rgn 16 4), (rgn 0 16, [17, 18, 19]), (rgn 0 17, [18, 19]), (rgn 0 18, [19]), (rgn 0 19, [])] (fun L ac w => St 47 w0 [(25, L 0, ni64 k), (26, L 1, .pointer (some ⟨g1, k, none⟩)), (27, L 2, nu64 (limN a k)), (28, L 3, ni64 k), (29, L 4, .pointer (some ⟨g2, k, none⟩)), (30, L 5, nu64 (limN b k)), (31, L 6, .bool false), (32, L 7, .bool false), (33, L 8, ni64 k), (34, L 9, .pointer (some ⟨g1, k, none⟩)), (35, L 10, nu64 (limN a k)), (36, L 11, ni64 k), (37, L 12, .pointer (some ⟨g2, k, none⟩)), (38, L 13, nu64 (limN b k)), (39, L 14, .bool true), (40, L 15, .bool true), (41, L 16, nu64 c), (42, L 17, .bool false), (43, L 18, .bool false), (44, L 19, .bool false), (2, true, ptA g1 0), (3, true, ptA g2 0), (4, true, ptA g3 0), (6, true, ptA g4 0), (7, true, nu64 c), (8, true, ni64 k)] [(true, g1, 24, (Wl a)), (true, g2, 24, (Wl b)), (true, g3, 24, [.int .u64 0, .int .u64 0, .int .u64 0, .int .u64 0]), (true, g4, 24, (tab .u64 4 (upn f k (((limN a k + 18446744073709551616 - (limN b k)) % 18446744073709551616 + 18446744073709551616 - c) % 18446744073709551616))))] ac w) (by kernel_rfl) (by kernel_rfl) ?_ ?_ ?_
     ·exact hs.drew.skip.skip.skip.skip.skip.skip.skip.skip.skip.skip.skip.skip.skip.skip.skip.skip.skip.skip.skip.skip
     ·refine ⟨?_, ?_, ?_, ?_, ?_, ?_, ?_, ?_, ?_, ?_, ?_, ?_, ?_, ?_, ?_, ?_, ?_, ?_, ?_, ?_, trivial⟩
      ·exact fun L ac w hs => pln (omv hs 0 rfl rfl rfl fun ac hs => hs)
      ·exact fun L ac w hs => pln (op_idxA hs (some 1) (j := k) rfl rfl rfl rfl underlying24 sizeOf22 (show k < 4 by omega) (off := k) (by omega) rfl fun ac hs => hs)
      ·exact fun L ac w hs => pln (oldd hs 2 0 (nu64 (limN a k)) isAgg22 sizeOf22 rfl rfl rfl rfl (Wl_get (j := k) (show k < 4 by omega)) fun ac hs => hs)
      ·exact fun L ac w hs => pln (omv hs 3 rfl rfl rfl fun ac hs => hs)
      ·exact fun L ac w hs => pln (op_idxA hs (some 4) (j := k) rfl rfl rfl rfl underlying24 sizeOf22 (show k < 4 by omega) (off := k) (by omega) rfl fun ac hs => hs)
      ·exact fun L ac w hs => pln (oldd hs 5 1 (nu64 (limN b k)) isAgg22 sizeOf22 rfl rfl rfl rfl (Wl_get (j := k) (show k < 4 by omega)) fun ac hs => hs)
      ·exact fun L ac w hs => pln (obn hs 6 (.bool false) rfl rfl rfl rfl (fun w => dF hq8 (bin_lssN w)) fun ac hs => hs)
      ·exact fun L ac w hs => pln (omv hs 7 rfl rfl rfl fun ac hs => hs)
      ·exact fun L ac w hs => wpO_in hs rfl rfl rfl (omv hs 8 rfl rfl rfl fun ac hs => hs)
      ·exact fun L ac w hs => wpO_in hs rfl rfl rfl (op_idxA hs (some 9) (j := k) rfl rfl rfl rfl underlying24 sizeOf22 (show k < 4 by omega) (off := k) (by omega) rfl fun ac hs => hs)
      ·exact fun L ac w hs => wpO_in hs rfl rfl rfl (oldd hs 10 0 (nu64 (limN a k)) isAgg22 sizeOf22 rfl rfl rfl rfl (Wl_get (j := k) (show k < 4 by omega)) fun ac hs => hs)
      ·exact fun L ac w hs => wpO_in hs rfl rfl rfl (omv hs 11 rfl rfl rfl fun ac hs => hs)
      ·exact fun L ac w hs => wpO_in hs rfl rfl rfl (op_idxA hs (some 12) (j := k) rfl rfl rfl rfl underlying24 sizeOf22 (show k < 4 by omega) (off := k) (by omega) rfl fun ac hs => hs)
      ·exact fun L ac w hs => wpO_in hs rfl rfl rfl (oldd hs 13 1 (nu64 (limN b k)) isAgg22 sizeOf22 rfl rfl rfl rfl (Wl_get (j := k) (show k < 4 by omega)) fun ac hs => hs)
      ·exact fun L ac w hs => wpO_in hs rfl rfl rfl (obn hs 14 (.bool true) rfl rfl rfl rfl (fun w => dT hq11 (bin_eqlN w)) fun ac hs => hs)
      ·exact fun L ac w hs => wpO_in hs rfl rfl rfl (omv hs 15 rfl rfl rfl fun ac hs => hs)
      ·exact fun L ac w hs => wpO_in hs rfl rfl rfl (omv hs 16 rfl rfl rfl fun ac hs => hs)
      ·exact fun L ac w hs => wpO_in hs rfl rfl rfl (obn hs 17 (.bool false) rfl rfl rfl rfl (fun w => dF hq12 (bin_eqlN (y := 1) w)) fun ac hs => hs)
      ·exact fun L ac w hs => wpO_in hs rfl rfl rfl (op_pickT hs (some 18) rfl rfl rfl rfl rfl fun ac hs => hs)
      ·exact fun L ac w hs => pln (op_pickF hs (some 19) rfl rfl rfl rfl rfl fun ac hs => hs)
     intro ac w hs
     try dsimp only [cond_true] at hs
     refine then_n ?_
     refine wp_cond_false (hs.ev rfl) ?_
     refine wp_region_lit ?_
     refine asg hs rfl rfl rfl fun ac hs => ?_
     refine wpList_nil (blk_n (then_n (wp_region_lit ?_)))
     refine mvv hs rfl rfl rfl fun ac hs => ?_
     refine bnn hs (ni64 (k + 1)) rfl rfl rfl rfl (bin_addN (y := 1) rfl (show k + 1 < 9223372036854775808 by omega)) fun ac hs => ?_
     refine asg hs rfl rfl rfl fun ac hs => ?_
     refine wpList_nil (then_n ?_)
     exact ⟨_, ⟨(k + 1), 0, (upn f k (((limN a k + 18446744073709551616 - (limN b k)) % 18446744073709551616 + 18446744073709551616 - c) % 18446744073709551616)), rfl, hlt, (less_c hc0 hcb (by split <;> omega)), (less_f hb hlt hc0 hcb hf), (hs.re ⟨rfl, rfl, rfl, rfl, rfl, rfl, trivial⟩)⟩, (by omega)⟩
   ·skip
    replace hs := hs.n0 [2, 3, 4, 6, 7, 8] rfl rfl
    have l21 := limN_lt a k
    have l22 := limN_lt b k
    have l23 := limN_lt a k
    have l24 := limN_lt b k
    refine region_inv [([], [1, 2, 6, 7, 8, 9, 10, 11, 12, 13, 14, 15, 16, 17, 18, 19]), ([0], [2, 6, 7, 8, 9, 10, 11, 12, 13, 14, 15, 16, 17, 18, 19]), ([0, 1], rgn 6 14), ([], rgn 4 16), ([3], rgn 5 15), ([3, 4], rgn 6 14), (rgn 0 6, rgn 7 13), (rgn 0 7, rgn 8 12), (rgn 0 8, [9, 10, 14, 15, 16, 17, 18, 19]), (rgn 0 9, [10, 14, 15, 16, 17, 18, 19]), (rgn 0 10, rgn 14 6), (rgn 0 8, rgn 12 8), ([0, 1, 2, 3, 4, 5, 6, 7, 11], rgn 13 7), ([0, 1, 2, 3, 4, 5, 6, 7, 11, 12], rgn 14 6), (rgn 0 14, rgn 15 5), (rgn 0 15, rgn 16 4), (rgn 0 16, [17, 18, 19]), (rgn 0 17, [18, 19]), (rgn 0 18, [19]), (rgn 0 19, [])] (fun L ac w => St 47 w0 [(25, L 0, ni64 k), (26, L 1, .pointer (some ⟨g1, k, none⟩)), (27, L 2, nu64 (limN a k)), (28, L 3, ni64 k), (29, L 4, .pointer (some ⟨g2, k, none⟩)), (30, L 5, nu64 (limN b k)), (31, L 6, .bool false), (32, L 7, .bool false), (33, L 8, ni64 k), (34, L 9, .pointer (some ⟨g1, k, none⟩)), (35, L 10, nu64 (limN a k)), (36, L 11, ni64 k), (37, L 12, .pointer (some ⟨g2, k, none⟩)), (38, L 13, nu64 (limN b k)), (39, L 14, .bool false), (40, L 15, .bool false), (41, L 16, undef), (42, L 17, undef), (43, L 18, .bool false), (44, L 19, .bool false), (2, true, ptA g1 0), (3, true, ptA g2 0), (4, true, ptA g3 0), (6, true, ptA g4 0), (7, true, nu64 c), (8, true, ni64 k)] [(true, g1, 24, (Wl a)), (true, g2, 24, (Wl b)), (true, g3, 24, [.int .u64 0, .int .u64 0, .int .u64 0, .int .u64 0]), (true, g4, 24, (tab .u64 4 (upn f k (((limN a k + 18446744073709551616 - (limN b k)) % 18446744073709551616 + 18446744073709551616 - c) % 18446744073709551616))))] ac w) (by kernel_rfl) (by kernel_rfl) ?_ ?_ ?_
    ·exact hs.drew.skip.skip.skip.skip.skip.skip.skip.skip.skip.skip.skip.skip.skip.skip.skip.skip.skip.skip.skip.skip
    ·refine ⟨?_, ?_, ?_, ?_, ?_, ?_, ?_, ?_, ?_, ?_, ?_, ?_, ?_, ?_, ?_, ?_, ?_, ?_, ?_, ?_, trivial⟩
     ·exact fun L ac w hs => pln (omv hs 0 rfl rfl rfl fun ac hs => hs)
     ·exact fun L ac w hs => pln (op_idxA hs (some 1) (j := k) rfl rfl rfl rfl underlying24 sizeOf22 (show k < 4 by omega) (off := k) (by omega) rfl fun ac hs => hs)
     ·exact fun L ac w hs => pln (oldd hs 2 0 (nu64 (limN a k)) isAgg22 sizeOf22 rfl rfl rfl rfl (Wl_get (j := k) (show k < 4 by omega)) fun ac hs => hs)
     ·exact fun L ac w hs => pln (omv hs 3 rfl rfl rfl fun ac hs => hs)
     ·exact fun L ac w hs => pln (op_idxA hs (some 4) (j := k) rfl rfl rfl rfl underlying24 sizeOf22 (show k < 4 by omega) (off := k) (by omega) rfl fun ac hs => hs)
     ·exact fun L ac w hs => pln (oldd hs 5 1 (nu64 (limN b k)) isAgg22 sizeOf22 rfl rfl rfl rfl (Wl_get (j := k) (show k < 4 by omega)) fun ac hs => hs)
     ·exact fun L ac w hs => pln (obn hs 6 (.bool false) rfl rfl rfl rfl (fun w => dF hq8 (bin_lssN w)) fun ac hs => hs)
     ·exact fun L ac w hs => pln (omv hs 7 rfl rfl rfl fun ac hs => hs)
     ·exact fun L ac w hs => wpO_in hs rfl rfl rfl (omv hs 8 rfl rfl rfl fun ac hs => hs)
     ·exact fun L ac w hs => wpO_in hs rfl rfl rfl (op_idxA hs (some 9) (j := k) rfl rfl rfl rfl underlying24 sizeOf22 (show k < 4 by omega) (off := k) (by omega) rfl fun ac hs => hs)
     ·exact fun L ac w hs => wpO_in hs rfl rfl rfl (oldd hs 10 0 (nu64 (limN a k)) isAgg22 sizeOf22 rfl rfl rfl rfl (Wl_get (j := k) (show k < 4 by omega)) fun ac hs => hs)
     ·exact fun L ac w hs => wpO_in hs rfl rfl rfl (omv hs 11 rfl rfl rfl fun ac hs => hs)
     ·exact fun L ac w hs => wpO_in hs rfl rfl rfl (op_idxA hs (some 12) (j := k) rfl rfl rfl rfl underlying24 sizeOf22 (show k < 4 by omega) (off := k) (by omega) rfl fun ac hs => hs)
     ·exact fun L ac w hs => wpO_in hs rfl rfl rfl (oldd hs 13 1 (nu64 (limN b k)) isAgg22 sizeOf22 rfl rfl rfl rfl (Wl_get (j := k) (show k < 4 by omega)) fun ac hs => hs)
     ·exact fun L ac w hs => wpO_in hs rfl rfl rfl (obn hs 14 (.bool false) rfl rfl rfl rfl (fun w => dF hq11 (bin_eqlN w)) fun ac hs => hs)
     ·exact fun L ac w hs => wpO_in hs rfl rfl rfl (omv hs 15 rfl rfl rfl fun ac hs => hs)
     ·intro L ac w hs
      refine wpO_out hs (some 16) rfl rfl (.inl rfl) rfl rfl fun ac hs => ?_
      exact hs
     ·intro L ac w hs
      refine wpO_out hs (some 17) rfl rfl (.inl rfl) rfl rfl fun ac hs => ?_
      exact hs
     ·exact fun L ac w hs => wpO_in hs rfl rfl rfl (op_pickF hs (some 18) rfl rfl rfl rfl rfl fun ac hs => hs)
     ·exact fun L ac w hs => pln (op_pickF hs (some 19) rfl rfl rfl rfl rfl fun ac hs => hs)
    intro ac w hs
    try dsimp only [cond_true] at hs
    refine then_n ?_
    refine wp_cond_false (hs.ev rfl) ?_
    refine wp_region_lit ?_
    refine asg hs rfl rfl rfl fun ac hs => ?_
    refine wpList_nil (blk_n (then_n (wp_region_lit ?_)))
    refine mvv hs rfl rfl rfl fun ac hs => ?_
    refine bnn hs (ni64 (k + 1)) rfl rfl rfl rfl (bin_addN (y := 1) rfl (show k + 1 < 9223372036854775808 by omega)) fun ac hs => ?_
    refine asg hs rfl rfl rfl fun ac hs => ?_
    refine wpList_nil (then_n ?_)
    exact ⟨_, ⟨(k + 1), 0, (upn f k (((limN a k + 18446744073709551616 - (limN b k)) % 18446744073709551616 + 18446744073709551616 - c) % 18446744073709551616)), rfl, hlt, (less_c hc0 hcb (by split <;> omega)), (less_f hb hlt hc0 hcb hf), (hs.re ⟨rfl, rfl, rfl, rfl, rfl, rfl, trivial⟩)⟩, (by omega)⟩
 ·skip
  have hp25 := of_decide_eq_false hc
  obtain rfl : k = 4 := by have := of_decide_eq_false hc; omega
  replace hs := hs.setb 3 (cs' := Wl (a + 2 ^ 256 - b)) rfl (tab_Wl hf)
  refine wp_exit (then_e (then_e (blk_e (then_n (wp_seq (wp_region_lit ?_))))))
  refine ldd hs 3 (W (a + 2 ^ 256 - b)) isAgg24 sizeOf24 rfl rfl rfl rfl rfl fun ac hs => ?_
  refine mvv hs rfl rfl rfl fun ac hs => ?_
  refine stp (stoo hs 2 ((Wl (a + 2 ^ 256 - b))) sizeOf24 rfl rfl rfl rfl rfl rfl rfl rfl rfl rfl fun w hs => ?_)
  refine asg hs rfl rfl rfl fun ac hs => ?_
  refine wpList_nil (then_n (wp_ret ?_))
  exact bodyPost_ret (res2 rfl (rv_c hs 2 (v := W (a + 2 ^ 256 - b)) rfl rfl isAgg24 sizeOf24 rfl) (rv_t hs rfl)) hs.defers ⟨by rw [← hd, W_mod, hcb]; exact congrArg _ (less_fin ha hb hc'), (hs.bel rfl)⟩
theorem more_at (a b d q : Nat) (ha : a < 2 ^ 256) (hb : b < 2 ^ 256) (hd : (a + b) % 2 ^ 256 = d) (hc' : (a + b) / 2 ^ 256 = q) (w0 : World) : Calls prog 59 #[W a, W b] w0 fun e w' => e = .returned (.tuple #[W d, nu64 q]) ∧ Below w0.heap.size w0 w' := by
 refine enter (n := 41) (args := [W a, W b]) func59 rfl rfl (Nat.le_of_ble_eq_true rfl) fun ac hs => ?_
 refine wp_seq (wp_region_lit ?_)
 refine stp (op_box hs none none (cs := (Wl a)) rfl rfl rfl rfl rfl rfl fun g1 ac w hs => ?_)
 refine stp (op_box hs none none (cs := (Wl b)) rfl rfl rfl rfl rfl rfl fun g2 ac w hs => ?_)
 refine stp (op_alloc hs none none (cs := [.int .u64 0, .int .u64 0, .int .u64 0, .int .u64 0]) rfl rfl zeroValue24 (by kernel_rfl) rfl rfl fun g3 ac w hs => ?_)
 refine asg hs rfl rfl rfl fun ac hs => ?_
 refine wpList_nil (then_n (wp_seq (wp_region_lit ?_)))
 refine stp (op_build hs none (qs := []) (v := .agg #[.int .u64 0, .int .u64 0, .int .u64 0, .int .u64 0]) rfl rfl rfl rfl (fun _ => by kernel_rfl) rfl fun ac hs => ?_)
 refine stp (op_alloc hs none none (cs := [.int .u64 0, .int .u64 0, .int .u64 0, .int .u64 0]) rfl rfl zeroValue24 (by kernel_rfl) rfl rfl fun g4 ac w hs => ?_)
 refine stp (stoo hs 3 ([.int .u64 0, .int .u64 0, .int .u64 0, .int .u64 0]) sizeOf24 rfl rfl rfl rfl rfl rfl rfl rfl rfl rfl fun w hs => ?_)
 refine wpList_nil (then_n (wp_seq ?_))
 replace hs := hs.n0 [2, 3, 4, 5, 6] rfl rfl
 refine wp_region_lit ?_
 refine asg hs rfl rfl rfl fun ac hs => ?_
 refine wpList_nil (then_n (wp_seq (wp_seq (wp_region_lit ?_))))
 refine asg hs rfl rfl rfl fun ac hs => ?_
 refine wpList_nil (then_n (wp_block ?_))
 refine wp_loop_m (fun μ ac w => ∃ (k : Nat) (c : Nat) (f : Nat → Nat), (4 - k) = μ ∧ (k ≤ 4) ∧ (c = cry a b k) ∧ (∀ j, j < k → f j = limN (a + b) j) ∧ St 41 w0 [(2, true, ptA g1 0), (3, true, ptA g2 0), (4, true, ptA g3 0), (6, true, ptA g4 0), (7, true, nu64 c), (8, true, ni64 k)] [(true, g1, 24, (Wl a)), (true, g2, 24, (Wl b)), (true, g3, 24, [.int .u64 0, .int .u64 0, .int .u64 0, .int .u64 0]), (true, g4, 24, (tab .u64 4 f))] ac w) ?_ ?_
 ·exact ⟨_, 0, 0, (fun _ => 0), rfl, (by omega), (cry_zero a b).symm, (fun j hj => by omega), (hs.re ⟨rfl, rfl, rfl, rfl, rfl, rfl, trivial⟩)⟩
 intro μ ac w ⟨k, c, f, hμ, hk, hcb, hf, hs⟩
 have hc0 : c ≤ 1 := by rw [hcb]; exact cry_le a b k
 refine wp_seq (wp_seq (wp_region_lit ?_))
 refine mvv hs rfl rfl rfl fun ac hs => ?_
 refine bnn hs (.bool (decide (k < 4))) rfl rfl rfl rfl (bin_lssN (y := 4)) fun ac hs => ?_
 refine wpList_nil (then_n ?_)
 refine wp_cond_split (hs.ev rfl) (fun hc => ?_) (fun hc => ?_)
 ·skip
  have hp5 := of_decide_eq_true hc
  have hlt : k < 4 := of_decide_eq_true hc
  refine wp_skip (then_n (wp_seq (wp_block (wp_seq ?_))))
  replace hs := hs.n0 [2, 3, 4, 6, 7, 8] rfl rfl
  have l6 := limN_lt a k
  have l7 := limN_lt b k
  refine region_inv [([], [1, 2, 6, 7]), ([0], [2, 6, 7]), ([0, 1], [6, 7]), ([], rgn 4 4), ([3], [5, 6, 7]), ([3, 4], [6, 7]), (rgn 0 6, [7]), (rgn 0 7, [])] (fun L ac w => St 41 w0 [(16, L 0, ni64 k), (17, L 1, .pointer (some ⟨g1, k, none⟩)), (18, L 2, nu64 (limN a k)), (19, L 3, ni64 k), (20, L 4, .pointer (some ⟨g2, k, none⟩)), (21, L 5, nu64 (limN b k)), (22, L 6, nu64 ((limN a k + (limN b k)) % 18446744073709551616)), (9, L 7, nu64 ((limN a k + (limN b k)) % 18446744073709551616)), (2, true, ptA g1 0), (3, true, ptA g2 0), (4, true, ptA g3 0), (6, true, ptA g4 0), (7, true, nu64 c), (8, true, ni64 k)] [(true, g1, 24, (Wl a)), (true, g2, 24, (Wl b)), (true, g3, 24, [.int .u64 0, .int .u64 0, .int .u64 0, .int .u64 0]), (true, g4, 24, (tab .u64 4 f))] ac w) (by kernel_rfl) (by kernel_rfl) ?_ ?_ ?_
  ·exact hs.drew.skip.skip.skip.skip.skip.skip.skip.skip
  ·refine ⟨?_, ?_, ?_, ?_, ?_, ?_, ?_, ?_, trivial⟩
   ·exact fun L ac w hs => pln (omv hs 0 rfl rfl rfl fun ac hs => hs)
   ·exact fun L ac w hs => pln (op_idxA hs (some 1) (j := k) rfl rfl rfl rfl underlying24 sizeOf22 (show k < 4 by omega) (off := k) (by omega) rfl fun ac hs => hs)
   ·exact fun L ac w hs => pln (oldd hs 2 0 (nu64 (limN a k)) isAgg22 sizeOf22 rfl rfl rfl rfl (Wl_get (j := k) (show k < 4 by omega)) fun ac hs => hs)
   ·exact fun L ac w hs => pln (omv hs 3 rfl rfl rfl fun ac hs => hs)
   ·exact fun L ac w hs => pln (op_idxA hs (some 4) (j := k) rfl rfl rfl rfl underlying24 sizeOf22 (show k < 4 by omega) (off := k) (by omega) rfl fun ac hs => hs)
   ·exact fun L ac w hs => pln (oldd hs 5 1 (nu64 (limN b k)) isAgg22 sizeOf22 rfl rfl rfl rfl (Wl_get (j := k) (show k < 4 by omega)) fun ac hs => hs)
   ·exact fun L ac w hs => pln (obn hs 6 (nu64 ((limN a k + (limN b k)) % 18446744073709551616)) rfl rfl rfl rfl (bin_addM rfl rfl) fun ac hs => hs)
   ·exact fun L ac w hs => pln (oas hs 7 rfl rfl rfl fun ac hs => hs)
  intro ac w hs
  try dsimp only [cond_true] at hs
  refine then_n (wp_seq (wp_region_lit ?_))
  refine mvv hs rfl rfl rfl fun ac hs => ?_
  refine mvv hs rfl rfl rfl fun ac hs => ?_
  refine bnn hs (.int .u64 ((((limN a k + (limN b k)) % 18446744073709551616 + c) % 18446744073709551616 : Nat) : Int)) rfl rfl rfl rfl (bin_addM (z := ((limN a k + (limN b k)) % 18446744073709551616 + c) % 18446744073709551616) rfl rfl) fun ac hs => ?_
  refine asg hs rfl rfl rfl fun ac hs => ?_
  refine wpList_nil (then_n (wp_seq (wp_seq ?_)))
  by_cases hq8 : (limN a k + (limN b k)) % 18446744073709551616 < limN a k
  ·skip
   refine wp_region_lit ?_
   refine mvv hs rfl rfl rfl fun ac hs => ?_
   refine mvv hs rfl rfl rfl fun ac hs => ?_
   refine stp (op_idxA hs none (j := k) rfl rfl rfl rfl underlying24 sizeOf22 (show k < 4 by omega) (off := k) (by omega) rfl fun ac hs => ?_)
   have l9 := limN_lt a k
   refine ldd hs 0 (nu64 (limN a k)) isAgg22 sizeOf22 rfl rfl rfl rfl (Wl_get (j := k) (show k < 4 by omega)) fun ac hs => ?_
   refine bnn hs (.bool true) rfl rfl rfl rfl (fun w => dT hq8 (bin_lssN w)) fun ac hs => ?_
   refine mvv hs rfl rfl rfl fun ac hs => ?_
   refine lstep (wpO_out hs none rfl rfl (.inl rfl) rfl rfl fun ac hs => ?_)
   refine lstep (wpO_out hs none rfl rfl (.inl rfl) rfl rfl fun ac hs => ?_)
   refine lstep (wpO_out hs none rfl rfl (.inl rfl) rfl rfl fun ac hs => ?_)
   refine stp (op_pickT hs none rfl rfl rfl rfl rfl fun ac hs => ?_)
   refine wpList_nil (then_n ?_)
   refine wp_cond_true (hs.ev rfl) ?_
   replace hs := hs.n0 [2, 3, 4, 6, 7, 8, 10] rfl rfl
   refine wp_region_lit ?_
   refine asg hs rfl rfl rfl fun ac hs => ?_
   refine wpList_nil (then_n (wp_region_lit ?_))
   refine mvv hs rfl rfl rfl fun ac hs => ?_
   refine mvv hs rfl rfl rfl fun ac hs => ?_
   refine stp (op_idxA hs none (j := k) rfl rfl rfl rfl underlying24 sizeOf22 (show k < 4 by omega) (off := k) (by omega) rfl fun ac hs => ?_)
   refine stp (stoo hs 3 ([.int .u64 ((((limN a k + (limN b k)) % 18446744073709551616 + c) % 18446744073709551616 : Nat) : Int)]) sizeOf22 rfl rfl rfl rfl rfl rfl rfl rfl (tab_le (j := k) (show k < 4 by omega)) (tab_set) fun w hs => ?_)
   refine wpList_nil (blk_n (then_n (wp_region_lit ?_)))
   refine mvv hs rfl rfl rfl fun ac hs => ?_
   refine bnn hs (ni64 (k + 1)) rfl rfl rfl rfl (bin_addN (y := 1) rfl (show k + 1 < 9223372036854775808 by omega)) fun ac hs => ?_
   refine asg hs rfl rfl rfl fun ac hs => ?_
   refine wpList_nil (then_n ?_)
   exact ⟨_, ⟨(k + 1), 1, (upn f k (((limN a k + (limN b k)) % 18446744073709551616 + c) % 18446744073709551616)), rfl, hlt, (more_c hc0 hcb (by omega)), (more_f hc0 hcb hf), (hs.re ⟨rfl, rfl, rfl, rfl, rfl, rfl, trivial⟩)⟩, (by omega)⟩
  ·skip
   by_cases hq10 : ((limN a k + (limN b k)) % 18446744073709551616 + c) % 18446744073709551616 < (limN a k + (limN b k)) % 18446744073709551616
   ·skip
    refine wp_region_lit ?_
    refine mvv hs rfl rfl rfl fun ac hs => ?_
    refine mvv hs rfl rfl rfl fun ac hs => ?_
    refine stp (op_idxA hs none (j := k) rfl rfl rfl rfl underlying24 sizeOf22 (show k < 4 by omega) (off := k) (by omega) rfl fun ac hs => ?_)
    have l11 := limN_lt a k
    refine ldd hs 0 (nu64 (limN a k)) isAgg22 sizeOf22 rfl rfl rfl rfl (Wl_get (j := k) (show k < 4 by omega)) fun ac hs => ?_
    refine bnn hs (.bool false) rfl rfl rfl rfl (fun w => dF hq8 (bin_lssN w)) fun ac hs => ?_
    refine mvv hs rfl rfl rfl fun ac hs => ?_
    refine lstep (wpO_in hs rfl rfl rfl (op_move hs none rfl rfl rfl rfl fun ac hs => ?_))
    refine lstep (wpO_in hs rfl rfl rfl (op_move hs none rfl rfl rfl rfl fun ac hs => ?_))
    refine lstep (wpO_in hs rfl rfl rfl (op_bin hs none (v := .bool true) rfl rfl rfl rfl (fun _ => rfl) (fun w => dT hq10 (bin_lssN (x := ((limN a k + (limN b k)) % 18446744073709551616 + c) % 18446744073709551616) (y := (limN a k + (limN b k)) % 18446744073709551616) w)) rfl fun ac hs => ?_))
    refine stp (op_pickF hs none rfl rfl rfl rfl rfl fun ac hs => ?_)
    refine wpList_nil (then_n ?_)
    refine wp_cond_true (hs.ev rfl) ?_
    replace hs := hs.n0 [2, 3, 4, 6, 7, 8, 10] rfl rfl
    refine wp_region_lit ?_
    refine asg hs rfl rfl rfl fun ac hs => ?_
    refine wpList_nil (then_n (wp_region_lit ?_))
    refine mvv hs rfl rfl rfl fun ac hs => ?_
    refine mvv hs rfl rfl rfl fun ac hs => ?_
    refine stp (op_idxA hs none (j := k) rfl rfl rfl rfl underlying24 sizeOf22 (show k < 4 by omega) (off := k) (by omega) rfl fun ac hs => ?_)
    refine stp (stoo hs 3 ([.int .u64 ((((limN a k + (limN b k)) % 18446744073709551616 + c) % 18446744073709551616 : Nat) : Int)]) sizeOf22 rfl rfl rfl rfl rfl rfl rfl rfl (tab_le (j := k) (show k < 4 by omega)) (tab_set) fun w hs => ?_)
    refine wpList_nil (blk_n (then_n (wp_region_lit ?_)))
    refine mvv hs rfl rfl rfl fun ac hs => ?_
    refine bnn hs (ni64 (k + 1)) rfl rfl rfl rfl (bin_addN (y := 1) rfl (show k + 1 < 9223372036854775808 by omega)) fun ac hs => ?_
    refine asg hs rfl rfl rfl fun ac hs => ?_
    refine wpList_nil (then_n ?_)
    exact ⟨_, ⟨(k + 1), 1, (upn f k (((limN a k + (limN b k)) % 18446744073709551616 + c) % 18446744073709551616)), rfl, hlt, (more_c hc0 hcb (by omega)), (more_f hc0 hcb hf), (hs.re ⟨rfl, rfl, rfl, rfl, rfl, rfl, trivial⟩)⟩, (by omega)⟩
   ·skip
    refine wp_region_lit ?_
    refine mvv hs rfl rfl rfl fun ac hs => ?_
    refine mvv hs rfl rfl rfl fun ac hs => ?_
    refine stp (op_idxA hs none (j := k) rfl rfl rfl rfl underlying24 sizeOf22 (show k < 4 by omega) (off := k) (by omega) rfl fun ac hs => ?_)
    have l12 := limN_lt a k
    refine ldd hs 0 (nu64 (limN a k)) isAgg22 sizeOf22 rfl rfl rfl rfl (Wl_get (j := k) (show k < 4 by omega)) fun ac hs => ?_
    refine bnn hs (.bool false) rfl rfl rfl rfl (fun w => dF hq8 (bin_lssN w)) fun ac hs => ?_
    refine mvv hs rfl rfl rfl fun ac hs => ?_
    refine lstep (wpO_in hs rfl rfl rfl (op_move hs none rfl rfl rfl rfl fun ac hs => ?_))
    refine lstep (wpO_in hs rfl rfl rfl (op_move hs none rfl rfl rfl rfl fun ac hs => ?_))
    refine lstep (wpO_in hs rfl rfl rfl (op_bin hs none (v := .bool false) rfl rfl rfl rfl (fun _ => rfl) (fun w => dF hq10 (bin_lssN (x := ((limN a k + (limN b k)) % 18446744073709551616 + c) % 18446744073709551616) (y := (limN a k + (limN b k)) % 18446744073709551616) w)) rfl fun ac hs => ?_))
    refine stp (op_pickF hs none rfl rfl rfl rfl rfl fun ac hs => ?_)
    refine wpList_nil (then_n ?_)
    refine wp_cond_false (hs.ev rfl) ?_
    replace hs := hs.n0 [2, 3, 4, 6, 7, 8, 10] rfl rfl
    refine wp_region_lit ?_
    refine asg hs rfl rfl rfl fun ac hs => ?_
    refine wpList_nil (then_n (wp_region_lit ?_))
    refine mvv hs rfl rfl rfl fun ac hs => ?_
    refine mvv hs rfl rfl rfl fun ac hs => ?_
    refine stp (op_idxA hs none (j := k) rfl rfl rfl rfl underlying24 sizeOf22 (show k < 4 by omega) (off := k) (by omega) rfl fun ac hs => ?_)
    refine stp (stoo hs 3 ([.int .u64 ((((limN a k + (limN b k)) % 18446744073709551616 + c) % 18446744073709551616 : Nat) : Int)]) sizeOf22 rfl rfl rfl rfl rfl rfl rfl rfl (tab_le (j := k) (show k < 4 by omega)) (tab_set) fun w hs => ?_)
    refine wpList_nil (blk_n (then_n (wp_region_lit ?_)))
    refine mvv hs rfl rfl rfl fun ac hs => ?_
    refine bnn hs (ni64 (k + 1)) rfl rfl rfl rfl (bin_addN (y := 1) rfl (show k + 1 < 9223372036854775808 by omega)) fun ac hs => ?_
    refine asg hs rfl rfl rfl fun ac hs => ?_
    refine wpList_nil (then_n ?_)
    exact ⟨_, ⟨(k + 1), 0, (upn f k (((limN a k + (limN b k)) % 18446744073709551616 + c) % 18446744073709551616)), rfl, hlt, (more_c hc0 hcb (by omega)), (more_f hc0 hcb hf), (hs.re ⟨rfl, rfl, rfl, rfl, rfl, rfl, trivial⟩)⟩, (by omega)⟩
 ·skip
  have hp13 := of_decide_eq_false hc
  obtain rfl : k = 4 := by have := of_decide_eq_false hc; omega
  replace hs := hs.setb 3 (cs' := Wl (a + b)) rfl (tab_Wl hf)
  refine wp_exit (then_e (then_e (blk_e (then_n (wp_seq (wp_region_lit ?_))))))
  refine ldd hs 3 (W (a + b)) isAgg24 sizeOf24 rfl rfl rfl rfl rfl fun ac hs => ?_
  refine mvv hs rfl rfl rfl fun ac hs => ?_
  refine stp (stoo hs 2 ((Wl (a + b))) sizeOf24 rfl rfl rfl rfl rfl rfl rfl rfl rfl rfl fun w hs => ?_)
  refine asg hs rfl rfl rfl fun ac hs => ?_
  refine wpList_nil (then_n (wp_ret ?_))
  exact bodyPost_ret (res2 rfl (rv_c hs 2 (v := W (a + b)) rfl rfl isAgg24 sizeOf24 rfl) (rv_t hs rfl)) hs.defers ⟨by rw [← hd, W_mod, hcb]; exact congrArg _ (more_fin ha hb hc'), (hs.bel rfl)⟩
end Go.Proofs.YtejbajgpiecjcaaGreat
