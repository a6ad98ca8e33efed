/- The curve y^2 = x^3 + 7: its points are a group; the order. Plain law, no program here. -/
import Derived.Test.YtmpejkhffbonnaaFe
namespace Go.Proofs.Ytmpejkhffbonnaa
namespace EM
set_option linter.unusedSectionVars false
section
variable {p : Nat} [NeZero p]

/-- what is asked of the prime -/
structure Good (p : Nat) [NeZero p] : Prop where
  prime : Pr p
  two : (2 : Fin p) ≠ 0
  /-- no point with y = 0 -/
  cube : ∀ x : Fin p, x * x * x + 7 ≠ 0

def finv (a : Fin p) : Fin p := fpow a (p - 2)

theorem finv_mul (h : Pr p) (a : Fin p) (ha : a ≠ 0) : a * finv a = 1 := by
  have hp := h.1
  have h1 := fermat h a ha
  have h2 : p - 1 = (p - 2) + 1 := by omega
  rw [h2, fpow] at h1
  unfold finv
  grind

theorem fcancel (h : Pr p) {a b c : Fin p} (ha : a ≠ 0) (hbc : a * b = a * c) : b = c := by
  have hz : a * (b - c) = 0 := by grind
  rcases fmul_zero_of h _ _ hz with h1 | h1
  · exact absurd h1 ha
  · grind

theorem fone_ne (h : Pr p) : (1 : Fin p) ≠ 0 := by
  intro h0
  have := congrArg Fin.val h0
  have h2 := h.1
  have e1 : (1 : Fin p).val = 1 % p := rfl
  have e0 : (0 : Fin p).val = 0 % p := rfl
  rw [e1, e0, Nat.mod_eq_of_lt (by omega)] at this
  simp at this

/-- a point: zero, or two numbers -/
inductive Pt (p : Nat) where
  | O
  | A (x y : Fin p)
deriving DecidableEq

def Pt.on : Pt p → Prop
  | .O => True
  | .A x y => y * y = x * x * x + 7

def Pt.neg : Pt p → Pt p
  | .O => .O
  | .A x y => .A x (-y)

def slope (x1 y1 x2 y2 : Fin p) : Fin p := if x1 = x2 then (3 * (x1 * x1)) * finv (y1 + y1) else (y2 - y1) * finv (x2 - x1)

def Pt.add : Pt p → Pt p → Pt p
  | .O, q => q
  | q, .O => q
  | .A x1 y1, .A x2 y2 =>
    if x1 = x2 ∧ (y1 ≠ y2 ∨ y1 = 0) then .O
    else
      let s := slope x1 y1 x2 y2
      let x := s * s - x1 - x2
      .A x (s * (x1 - x) - y1)

/-- s is the slope of the line through two points (the tangent's, if they are one) -/
def IsSlope (s x1 y1 x2 y2 : Fin p) : Prop := s * (x1 - x2) = y1 - y2 ∧ s * (y1 + y2) = x1 * x1 + x1 * x2 + x2 * x2

theorem IsSlope.symm {s x1 y1 x2 y2 : Fin p} (h : IsSlope s x1 y1 x2 y2) : IsSlope s x2 y2 x1 y1 := by
  obtain ⟨h1, h2⟩ := h
  constructor <;> grind

/-- one the other's negative -/
def Opp (x1 y1 x2 y2 : Fin p) : Prop := x1 = x2 ∧ y1 = -y2

variable (G : Good p)
include G

theorem y_ne {x y : Fin p} (h : y * y = x * x * x + 7) : y ≠ 0 := by
  rintro rfl
  exact G.cube x (by grind)

theorem yy_ne {x y : Fin p} (h : y * y = x * x * x + 7) : y + y ≠ 0 := by
  intro h0
  have h1 : 2 * y = 0 := by grind
  rcases fmul_zero_of G.prime _ _ h1 with h2 | h2
  · exact G.two h2
  · exact y_ne G h h2

theorem same_x {x1 y1 x2 y2 : Fin p} (h1 : y1 * y1 = x1 * x1 * x1 + 7) (h2 : y2 * y2 = x2 * x2 * x2 + 7) (hx : x1 = x2) : y1 = y2 ∨ y1 = -y2 := by
  subst hx
  have hz : (y1 - y2) * (y1 + y2) = 0 := by grind
  rcases fmul_zero_of G.prime _ _ hz with h | h
  · left; grind
  · right; grind

theorem isSlope_slope {x1 y1 x2 y2 : Fin p} (h1 : y1 * y1 = x1 * x1 * x1 + 7) (h2 : y2 * y2 = x2 * x2 * x2 + 7) (hn : ¬ Opp x1 y1 x2 y2) : IsSlope (slope x1 y1 x2 y2) x1 y1 x2 y2 := by
  unfold slope
  by_cases hx : x1 = x2
  · rw [if_pos hx]
    have hy : y1 = y2 := by
      rcases same_x G h1 h2 hx with h | h
      · exact h
      · exact absurd ⟨hx, h⟩ hn
    subst hx; subst hy
    have hi := finv_mul G.prime (y1 + y1) (yy_ne G h1)
    constructor
    · grind
    · grind
  · rw [if_neg hx]
    have hd : x2 - x1 ≠ 0 := by
      intro h0; exact hx (by grind)
    have hi := finv_mul G.prime (x2 - x1) hd
    have e1 : (y2 - y1) * finv (x2 - x1) * (x1 - x2) = y1 - y2 := by grind
    refine ⟨e1, ?_⟩
    refine fcancel G.prime hd ?_
    have e2 : (x2 - x1) * ((y2 - y1) * finv (x2 - x1) * (y1 + y2)) = (y2 - y1) * (y1 + y2) := by grind
    rw [e2]
    grind

theorem slope_unique {s t x1 y1 x2 y2 : Fin p} (h1 : y1 * y1 = x1 * x1 * x1 + 7) (h2 : y2 * y2 = x2 * x2 * x2 + 7) (hn : ¬ Opp x1 y1 x2 y2)
    (hs : IsSlope s x1 y1 x2 y2) (ht : IsSlope t x1 y1 x2 y2) : s = t := by
  by_cases hx : x1 = x2
  · have hy : y1 = y2 := by
      rcases same_x G h1 h2 hx with h | h
      · exact h
      · exact absurd ⟨hx, h⟩ hn
    subst hy
    refine fcancel G.prime (yy_ne G h1) ?_
    have := hs.2
    have := ht.2
    grind
  · refine fcancel G.prime (a := x1 - x2) (fun h0 => hx (by grind)) ?_
    have := hs.1
    have := ht.1
    grind

/-- a sum of two points that are not opposite, by any slope that fits -/
theorem add_eq {s x1 y1 x2 y2 : Fin p} (h1 : y1 * y1 = x1 * x1 * x1 + 7) (h2 : y2 * y2 = x2 * x2 * x2 + 7) (hn : ¬ Opp x1 y1 x2 y2) (hs : IsSlope s x1 y1 x2 y2) :
    Pt.add (.A x1 y1) (.A x2 y2) = .A (s * s - x1 - x2) (s * (x1 - (s * s - x1 - x2)) - y1) := by
  have hc : ¬ (x1 = x2 ∧ (y1 ≠ y2 ∨ y1 = 0)) := by
    rintro ⟨hx, hy⟩
    rcases hy with hy | hy
    · rcases same_x G h1 h2 hx with h | h
      · exact hy h
      · exact hn ⟨hx, h⟩
    · exact y_ne G h1 hy
  have hu := slope_unique G h1 h2 hn (isSlope_slope G h1 h2 hn) hs
  simp only [Pt.add, if_neg hc, hu]

theorem add_opp {x y : Fin p} (h1 : y * y = x * x * x + 7) : Pt.add (.A x y) (.A x (-y)) = .O := by
  have hc : x = x ∧ (y ≠ -y ∨ y = 0) := by
    refine ⟨rfl, .inl fun h => yy_ne G h1 (by grind)⟩
  show (if x = x ∧ (y ≠ -y ∨ y = 0) then Pt.O else _) = Pt.O
  rw [if_pos hc]

theorem on_third {s x1 y1 x2 y2 : Fin p} (h1 : y1 * y1 = x1 * x1 * x1 + 7) (hs : IsSlope s x1 y1 x2 y2) :
    let x := s * s - x1 - x2
    let y := s * (x1 - x) - y1
    y * y = x * x * x + 7 := by
  obtain ⟨hs1, hs2⟩ := hs
  intro x y
  grind

end
section
variable {R : Type} [Lean.Grind.CommRing R]
/-- the common number of both sums: f (lam - mu) = xA - xC -/
theorem assoc_end {f l m u b c yA yC xD yD x : R} (h : (f - l) * (xD - c) = yD - yC) (hy : yA = yC + l * (u - b) + m * (b - c)) (hu : u = c + f * (l - m)) (hx : x = (f - l) * (f - l) - xD - c) (hxD : xD = l * l - u - b) :
    (f - l) * (xD - x) - yD = (f - m) * (u - x) - yA := by
  have e1 : (f - l) * (xD - x) - yD = (f - l) * (xD - c) + (f - l) * (c - x) - yD := by clear h hy hu hx hxD; grind
  rw [e1, h]
  have e2 : yD - yC + (f - l) * (c - x) - yD = (f - l) * (c - x) - yC := by clear h hy hu hx hxD e1; grind
  rw [e2]
  clear e1 e2 h
  subst hx
  subst hxD
  subst hy
  subst hu
  grind
theorem assoc_K0 {xA yA xB yB xC yC l m : R} (h1 : l * (xA - xB) = yA - yB) (h1' : l * (yA + yB) = xA * xA + xA * xB + xB * xB)
    (h2 : m * (xB - xC) = yB - yC) (h2' : m * (yB + yC) = xB * xB + xB * xC + xC * xC) :
    (xA - xC) * (xA + xB + xC - l * m) = (l - m) * (yA + yC) := by
  have e1 : l * (yB - yC) = l * (m * (xB - xC)) := by rw [h2]
  have e2 : m * (yA - yB) = m * (l * (xA - xB)) := by rw [h1]
  grind
theorem assoc_K {xA yA xB yB xC yC l m f : R} (h1 : l * (xA - xB) = yA - yB) (h1' : l * (yA + yB) = xA * xA + xA * xB + xB * xB)
    (h2 : m * (xB - xC) = yB - yC) (h2' : m * (yB + yC) = xB * xB + xB * xC + xC * xC) (hf : f * (l - m) = xA - xC) :
    (l - m) * (f * (xA + xB + xC - l * m)) = (l - m) * (yA + yC) := by
  have e1 : l * (yB - yC) = l * (m * (xB - xC)) := by rw [h2]
  have e2 : m * (yA - yB) = m * (l * (xA - xB)) := by rw [h1]
  have e : (xA - xC) * (xA + xB + xC - l * m) = (l - m) * (yA + yC) := by clear hf; grind
  have e3 : (l - m) * (f * (xA + xB + xC - l * m)) = (f * (l - m)) * (xA + xB + xC - l * m) := by grind
  rw [e3, hf, e]
theorem assoc_s1 {u yA b yB c yC l m f x : R} (h1 : l * (u - b) = yA - yB) (h2 : m * (b - c) = yB - yC) (hf : f * (l - m) = u - c) (hK : f * (u + b + c - l * m) = yA + yC) (hx : x = l * l - u - b) :
    (f - l) * (x - c) = l * (u - x) - yA - yC := by
  have e1 : l * (f * (l - m)) = l * (u - c) := by rw [hf]
  subst hx
  grind
theorem assoc_s2 {u yA b yB c yC l m f x y : R} (h1 : l * (u - b) = yA - yB) (h1' : l * (yA + yB) = u * u + u * b + b * b) (h2 : m * (b - c) = yB - yC) (hf : f * (l - m) = u - c) (hK : f * (u + b + c - l * m) = yA + yC) (hx : x = l * l - u - b) (hy : y = l * (u - x) - yA) :
    (f - l) * (y + yC) = x * x + x * c + c * c := by
  have s1 := assoc_s1 h1 h2 hf hK hx
  have e0 : y = yC + (f - l) * (x - c) := by rw [hy, s1]; grind
  -- 2 yC
  have t2 : yC + yC = f * (u + b + c - l * m) - l * u + m * c + (l - m) * b := by
    have : yC + yC = (yA + yC) - (yA - yB) - (yB - yC) := by clear h1 h1' h2 hf hK hx hy s1 e0; grind
    rw [this, ← hK, ← h1, ← h2]
    clear this h1 h1' h2 hf hK hx hy s1 e0
    grind
  have r1 : l * (f * (u + b + c - l * m)) + l * m * (b - c) = u * u + u * b + b * b := by
    rw [hK, ← h1']
    have : l * m * (b - c) = l * (yB - yC) := by rw [← h2]; clear h1 h1' h2 hf hK hx hy s1 e0 t2; grind
    rw [this]
    clear this h1 h1' h2 hf hK hx hy s1 e0 t2
    grind
  have i1 : x - c = l * (l - m) - (u + b + c - l * m) := by rw [hx]; clear h1 h1' h2 hf hK hx hy s1 e0 t2 r1; grind
  have i2 : y + yC = -(l * x) + b * (l - m) + c * m := by
    have e1 : l * (f * (l - m)) = l * (u - c) := by rw [hf]
    have : y + yC = (yC + yC) + (f - l) * (x - c) := by rw [e0]; clear e1 t2 i1 hx r1 e0 s1 hy hK hf h2 h1' h1; grind
    rw [this, t2, i1, hx]
    clear this t2 i1 hx r1 e0 s1 hy hK hf h2 h1' h1
    grind
  rw [i2]
  have hu : u = c + f * (l - m) := by rw [hf]; clear i2 t2 i1 hx r1 e0 s1 hy hK hf h2 h1' h1; grind
  clear i2 t2 e0 s1 hy hK h2 h1' h1 i1 hf
  subst hx
  subst hu
  grind
end
section
variable {p : Nat} [NeZero p] (G : Good p)
include G
theorem add_comm' : ∀ {P Q : Pt p}, P.on → Q.on → P.add Q = Q.add P
  | .O, .O, _, _ => rfl
  | .O, .A _ _, _, _ => rfl
  | .A _ _, .O, _, _ => rfl
  | .A x1 y1, .A x2 y2, h1, h2 => by
    by_cases hn : Opp x1 y1 x2 y2
    · obtain ⟨rfl, rfl⟩ := hn
      have e := add_opp G h2
      have h1' : (-y2) * (-y2) = x1 * x1 * x1 + 7 := h1
      have e2 := add_opp G h1'
      rw [show - -y2 = y2 by grind] at e2
      rw [e, e2]
    · have hn2 : ¬ Opp x2 y2 x1 y1 := fun ⟨a, b⟩ => hn ⟨a.symm, by rw [b]; grind⟩
      have hs := isSlope_slope G h1 h2 hn
      rw [add_eq G h1 h2 hn hs, add_eq G h2 h1 hn2 hs.symm]
      generalize slope x1 y1 x2 y2 = s at hs
      obtain ⟨a, _⟩ := hs
      have ex : s * s - x1 - x2 = s * s - x2 - x1 := by grind
      rw [ex]
      congr 1
      grind
theorem on_add : ∀ {P Q : Pt p}, P.on → Q.on → (P.add Q).on
  | .O, .O, _, _ => trivial
  | .O, .A _ _, _, h => h
  | .A _ _, .O, h, _ => h
  | .A x1 y1, .A x2 y2, h1, h2 => by
    by_cases hn : Opp x1 y1 x2 y2
    · obtain ⟨rfl, rfl⟩ := hn
      have h1' : (-y2) * (-y2) = x1 * x1 * x1 + 7 := h1
      have e2 := add_opp G h1'
      rw [show - -y2 = y2 by grind] at e2
      rw [e2]; trivial
    · have hs := isSlope_slope G h1 h2 hn
      rw [add_eq G h1 h2 hn hs]
      exact on_third G h1 hs
omit G in
theorem neg_neg' : ∀ P : Pt p, P.neg.neg = P
  | .O => rfl
  | .A x y => by show Pt.A x (- -y) = Pt.A x y; rw [show - -y = y by grind]
omit G in
theorem on_neg : ∀ {P : Pt p}, P.on → P.neg.on
  | .O, _ => trivial
  | .A x y, h => by
    show (-y) * (-y) = x * x * x + 7
    have h : y * y = x * x * x + 7 := h
    rw [← h]; grind
theorem neg_add_self : ∀ {P : Pt p}, P.on → P.neg.add P = .O
  | .O, _ => rfl
  | .A x y, h => by
    have h' := on_neg (P := .A x y) h
    have e := add_opp G (x := x) (y := -y) h'
    rw [show - -y = y by grind] at e
    exact e
/-- what is added goes away again -/
theorem cancel : ∀ {P Q : Pt p}, P.on → Q.on → P.neg.add (P.add Q) = Q
  | .O, .O, _, _ => rfl
  | .O, .A _ _, _, _ => rfl
  | .A x y, .O, h, _ => neg_add_self G h
  | .A x1 y1, .A x2 y2, h1, h2 => by
    by_cases hn : Opp x1 y1 x2 y2
    · obtain ⟨rfl, rfl⟩ := hn
      have h1' : (-y2) * (-y2) = x1 * x1 * x1 + 7 := h1
      have e2 := add_opp G h1'
      rw [show - -y2 = y2 by grind] at e2
      rw [e2]
      show Pt.A x1 (- -y2) = Pt.A x1 y2
      rw [show - -y2 = y2 by grind]
    · have hs := isSlope_slope G h1 h2 hn
      have h3 := on_add G (P := .A x1 y1) (Q := .A x2 y2) h1 h2
      rw [add_eq G h1 h2 hn hs] at h3 ⊢
      generalize slope x1 y1 x2 y2 = s at hs h3
      obtain ⟨a, b⟩ := hs
      have hy := yy_ne G h1
      have h1n : (-y1) * (-y1) = x1 * x1 * x1 + 7 := on_neg (P := .A x1 y1) h1
      show Pt.add (.A x1 (-y1)) _ = _
      have hn' : ¬ Opp x1 (-y1) (s * s - x1 - x2) (s * (x1 - (s * s - x1 - x2)) - y1) := by
        rintro ⟨e1, e2⟩
        apply hy
        rw [← e1] at e2
        grind
      have hs' : IsSlope (-s) x1 (-y1) (s * s - x1 - x2) (s * (x1 - (s * s - x1 - x2)) - y1) := by
        constructor
        · grind
        · clear h3 hn' hy hn h1n
          have c1 : y1 * y1 = x1 * x1 * x1 + 7 := h1
          have e : s * (y1 + y2) = s * (y1 + y1) - s * (s * (x1 - x2)) := by rw [a]; grind
          rw [e] at b
          clear e a h2 c1 h1
          grind
      rw [add_eq G h1n h3 hn' hs']
      have ex : -s * -s - x1 - (s * s - x1 - x2) = x2 := by grind
      rw [ex]
      congr 1
      grind
theorem neg_add : ∀ {P Q : Pt p}, P.on → Q.on → (P.add Q).neg = P.neg.add Q.neg
  | .O, .O, _, _ => rfl
  | .O, .A _ _, _, _ => rfl
  | .A _ _, .O, _, _ => rfl
  | .A x1 y1, .A x2 y2, h1, h2 => by
    have h1n : (-y1) * (-y1) = x1 * x1 * x1 + 7 := on_neg (P := .A x1 y1) h1
    have h2n : (-y2) * (-y2) = x2 * x2 * x2 + 7 := on_neg (P := .A x2 y2) h2
    by_cases hn : Opp x1 y1 x2 y2
    · obtain ⟨rfl, rfl⟩ := hn
      have e1 := add_opp G h2n
      rw [show - -y2 = y2 by grind] at e1
      have e2 := add_opp G h2
      rw [e1]
      show Pt.O = Pt.add (.A x1 (- -y2)) (.A x1 (-y2))
      rw [show - -y2 = y2 by grind, e2]
    · have hn' : ¬ Opp x1 (-y1) x2 (-y2) := fun ⟨a, b⟩ => hn ⟨a, by grind⟩
      have hs := isSlope_slope G h1 h2 hn
      rw [add_eq G h1 h2 hn hs]
      generalize slope x1 y1 x2 y2 = s at hs
      have hs' : IsSlope (-s) x1 (-y1) x2 (-y2) := by
        obtain ⟨a, b⟩ := hs
        exact ⟨by grind, by grind⟩
      show Pt.A _ _ = Pt.add (.A x1 (-y1)) (.A x2 (-y2))
      rw [add_eq G h1n h2n hn' hs']
      rw [show -s * -s - x1 - x2 = s * s - x1 - x2 by grind]
      congr 1
      grind
theorem assoc : ∀ {P Q T : Pt p}, P.on → Q.on → T.on → (P.add Q).add T = P.add (Q.add T)
  | .O, _, _, _, _, _ => by cases ‹Pt p› <;> cases ‹Pt p› <;> rfl
  | .A _ _, .O, T, _, _, _ => by cases T <;> rfl
  | .A x y, .A x2 y2, .O, h1, h2, _ => by
    have e : ∀ P : Pt p, P.add .O = P := fun P => by cases P <;> rfl
    rw [e, e]
  | .A u yA, .A b yB, .A c yC, h1, h2, h3 => by
    have key : ∀ {P Q T : Pt p}, P.on → Q.on → T.on → T = (P.add Q).neg → (P.add Q).add T = P.add (Q.add T) := by
      intro P Q T hP hQ hT e
      subst e
      have hPQ := on_add G hP hQ
      rw [add_comm' G hPQ (on_neg hPQ), neg_add_self G hPQ, add_comm' G hP hQ, neg_add G hQ hP]
      have hQn := on_neg hQ
      have hPn := on_neg hP
      have := cancel G hQn hPn
      rw [neg_neg'] at this
      rw [this, add_comm' G hP hPn, neg_add_self G hP]
    have hO : ∀ P : Pt p, P.add .O = P := fun P => by cases P <;> rfl
    by_cases hAB : Opp u yA b yB
    · -- P = -Q
      have e : (Pt.A u yA : Pt p) = (Pt.A b yB : Pt p).neg := by obtain ⟨a, c⟩ := hAB; rw [a, c]; rfl
      rw [e, neg_add_self G h2, cancel G h2 h3]; rfl
    by_cases hBC : Opp b yB c yC
    · have e : (Pt.A c yC : Pt p) = (Pt.A b yB : Pt p).neg := by
        obtain ⟨a, d⟩ := hBC; rw [← a]; show Pt.A b yC = Pt.A b (-yB); rw [d]; congr 1; grind
      have hn := on_neg (P := .A b yB) h2
      have hab := on_add G (P := .A u yA) (Q := .A b yB) h1 h2
      rw [e, add_comm' G h2 hn, neg_add_self G h2, hO, add_comm' G hab hn, add_comm' G h1 h2, cancel G h2 h1]
    by_cases hPT : (Pt.A c yC : Pt p) = Pt.A u yA
    · rw [hPT]
      have hab := on_add G (P := .A u yA) (Q := .A b yB) h1 h2
      rw [add_comm' G h2 h1, add_comm' G hab h1]
    by_cases hD : (Pt.A c yC : Pt p) = (Pt.add (.A u yA) (.A b yB)).neg
    · exact key h1 h2 h3 hD
    by_cases hE : (Pt.A u yA : Pt p) = (Pt.add (.A b yB) (.A c yC)).neg
    · -- by the mirror
      have hbc := on_add G (P := .A b yB) (Q := .A c yC) h2 h3
      have hab := on_add G (P := .A u yA) (Q := .A b yB) h1 h2
      have := key (P := .A c yC) (Q := .A b yB) (T := .A u yA) h3 h2 h1 (by rw [add_comm' G h3 h2]; exact hE)
      rw [add_comm' G h3 h2, add_comm' G h2 h1, add_comm' G hbc h1, add_comm' G h3 hab] at this
      exact this.symm
    have hl := isSlope_slope G h1 h2 hAB
    have hm := isSlope_slope G h2 h3 hBC
    have hd3 := on_add G (P := .A u yA) (Q := .A b yB) h1 h2
    have he3 := on_add G (P := .A b yB) (Q := .A c yC) h2 h3
    rw [add_eq G h1 h2 hAB hl] at hd3 hD ⊢
    rw [add_eq G h2 h3 hBC hm] at he3 hE ⊢
    generalize slope u yA b yB = l at hl hd3 hD
    generalize slope b yB c yC = m at hm he3 hE
    obtain ⟨l1, l2⟩ := hl
    obtain ⟨m1, m2⟩ := hm
    have hK0 : (u - c) * (u + b + c - l * m) = (l - m) * (yA + yC) := assoc_K0 l1 l2 m1 m2
    have hd : l - m ≠ 0 := by
      intro h0
      have hlm : m = l := by clear hK0 l1 l2 m1 m2 hd3 he3 h1 h2 h3; grind
      subst hlm
      have hz : (u - c) * (u + b + c - m * m) = 0 := by rw [hK0, h0]; clear hK0 l1 l2 m1 m2 hd3 he3 h1 h2 h3; grind
      rcases fmul_zero_of G.prime _ _ hz with hu | hu
      · have huc : u = c := by clear hK0 hz l1 l2 m1 m2 hd3 he3 h1 h2 h3; grind
        subst huc
        rcases same_x G h1 h3 rfl with hy | hy
        · exact hPT (by rw [hy])
        · apply yy_ne G h1
          clear hK0 hz l2 m2 hd3 he3 h1 h2 h3
          grind
      · apply hD
        have ex : c = m * m - u - b := by clear hK0 hz l1 l2 m1 m2 hd3 he3 h1 h2 h3; grind
        show Pt.A c yC = Pt.A (m * m - u - b) (-(m * (u - (m * m - u - b)) - yA))
        rw [← ex]
        congr 1
        clear hK0 hz l2 m2 hd3 he3 h1 h2 h3 ex hu
        grind
    obtain ⟨f, hf⟩ : ∃ f, f * (l - m) = u - c := ⟨(u - c) * finv (l - m), by
      have := finv_mul G.prime (l - m) hd
      rw [fmul_assoc, fmul_comm (finv _), this, fmul_one]⟩
    have hK : f * (u + b + c - l * m) = yA + yC := fcancel G.prime hd (assoc_K l1 l2 m1 m2 hf)
    have hfm : f * (m - l) = c - u := by
      have : f * (m - l) = -(f * (l - m)) := by clear hK0 hK hf l1 l2 m1 m2 hd3 he3 h1 h2 h3; grind
      rw [this, hf]; clear hK0 hK hf l1 l2 m1 m2 hd3 he3 h1 h2 h3 this; grind
    have hKm : f * (c + b + u - m * l) = yC + yA := by
      have : f * (c + b + u - m * l) = f * (u + b + c - l * m) := by clear hK0 hK hf hfm l1 l2 m1 m2 hd3 he3 h1 h2 h3; grind
      rw [this, hK]; clear hK0 hK hf hfm l1 l2 m1 m2 hd3 he3 h1 h2 h3 this; grind
    have m1' : m * (c - b) = yC - yB := by clear hK0 hK hf hfm hKm l1 l2 m2 hd3 he3 h1 h2 h3; grind
    have l1' : l * (b - u) = yB - yA := by clear hK0 hK hf hfm hKm m1 m1' l2 m2 hd3 he3 h1 h2 h3; grind
    have m2' : m * (yC + yB) = c * c + c * b + b * b := by clear hK0 hK hf hfm hKm m1 m1' l1 l1' l2 hd3 he3 h1 h2 h3; grind
    have hey : m * (b - (m * m - b - c)) - yB = m * (c - (m * m - c - b)) - yC := by clear hK0 hK hf hfm hKm m1' l1 l1' l2 m2 m2' hd3 he3 h1 h2 h3; grind
    have hex : m * m - b - c = m * m - c - b := by clear hK0 hK hf hfm hKm m1 m1' l1 l1' l2 m2 m2' hd3 he3 h1 h2 h3 hey; grind
    rw [hey] at he3 hE ⊢
    rw [hex] at he3 hE ⊢
    have sD : IsSlope (f - l) (l * l - u - b) (l * (u - (l * l - u - b)) - yA) c yC := ⟨assoc_s1 l1 m1 hf hK rfl, assoc_s2 l1 l2 m1 hf hK rfl rfl⟩
    have sE : IsSlope (f - m) (m * m - c - b) (m * (c - (m * m - c - b)) - yC) u yA := ⟨assoc_s1 m1' l1' hfm hKm rfl, assoc_s2 m1' m2' l1' hfm hKm rfl rfl⟩
    have nD : ¬ Opp (l * l - u - b) (l * (u - (l * l - u - b)) - yA) c yC := by
      rintro ⟨e1, e2⟩
      apply hD
      show Pt.A c yC = Pt.A (l * l - u - b) (-(l * (u - (l * l - u - b)) - yA))
      rw [e2, e1]
      congr 1
      clear hK0 hK hf hfm hKm m1 m1' l1 l1' l2 m2 m2' hd3 he3 h1 h2 h3 hey sD sE e1 e2 hex
      grind
    have nE : ¬ Opp u yA (m * m - c - b) (m * (c - (m * m - c - b)) - yC) := by
      rintro ⟨e1, e2⟩
      apply hE
      show Pt.A u yA = Pt.A (m * m - c - b) (-(m * (c - (m * m - c - b)) - yC))
      rw [← e2, ← e1]
    rw [add_eq G hd3 h3 nD sD, add_eq G h1 he3 nE sE.symm]
    have s1 := sD.1
    clear sD sE nD nE hd3 he3 hE hD h1 h2 h3 hPT hAB hBC key hO hK0 hK hKm hfm m1' l1' m2' m2 l2 hd hex hey
    have hu : u = c + f * (l - m) := by rw [hf]; clear hf l1 m1 s1; grind
    have hy : yA = yC + l * (u - b) + m * (b - c) := by rw [l1, m1]; clear l1 m1 hf hu s1; grind
    have ex : (f - l) * (f - l) - (l * l - u - b) - c = (f - m) * (f - m) - u - (m * m - c - b) := by
      clear l1 m1 hf s1 hy; subst hu; grind
    rw [← ex]
    congr 1
    exact assoc_end s1 hy hu rfl rfl
end
section
variable {α : Type} [DecidableEq α] (t : α → α)
def it : Nat → α → α
  | 0, x => x
  | k + 1, x => it k (t x)
theorem it_add : ∀ (j k : Nat) (x : α), it t (j + k) x = it t k (it t j x)
  | 0, k, x => by rw [Nat.zero_add]; rfl
  | j + 1, k, x => by rw [show j + 1 + k = (j + k) + 1 by omega]; exact it_add j k (t x)
structure Exact (n : Nat) (L : List α) : Prop where
  pos : 0 < n
  inside : ∀ x ∈ L, t x ∈ L
  whole : ∀ x ∈ L, it t n x = x
  free : ∀ x ∈ L, ∀ i, 0 < i → i < n → it t i x ≠ x
  nodup : L.Nodup
theorem it_mem {n : Nat} {L : List α} (h : Exact t n L) : ∀ (k : Nat) (x : α), x ∈ L → it t k x ∈ L
  | 0, _, hx => hx
  | k + 1, x, hx => it_mem h k (t x) (h.inside x hx)
theorem it_mod {n : Nat} {L : List α} (h : Exact t n L) {x : α} (hx : x ∈ L) : ∀ k, it t k x = it t (k % n) x := by
  intro k
  induction k using Nat.strongRecOn with
  | _ k ih =>
    rcases Nat.lt_or_ge k n with hk | hk
    · rw [Nat.mod_eq_of_lt hk]
    · have hn := h.pos
      have e : it t k x = it t (k - n) x := by
        conv => lhs; rw [show k = n + (k - n) by omega]
        rw [it_add, h.whole x hx]
      rw [e, ih (k - n) (by omega), Nat.mod_eq_sub_mod hk]
def orb (n : Nat) (x : α) : List α := (List.range n).map fun i => it t i x
theorem orb_nodup {n : Nat} {L : List α} (h : Exact t n L) {x : α} (hx : x ∈ L) : (orb t n x).Nodup := by
  have key : ∀ i j, i < j → j < n → it t i x ≠ it t j x := by
    intro i j hij hj e
    have e2 := congrArg (it t (n - i)) e
    rw [← it_add, ← it_add, show i + (n - i) = n by omega, h.whole x hx, show j + (n - i) = n + (j - i) by omega, it_add, h.whole x hx] at e2
    exact h.free x hx (j - i) (by omega) (by omega) e2.symm
  unfold orb
  rw [List.nodup_iff_pairwise_ne, List.pairwise_map]
  have hp := List.pairwise_lt_range (n := n)
  refine (List.Pairwise.and_mem.1 hp).imp ?_
  rintro i j ⟨hi, hj, hij⟩
  exact key i j hij (List.mem_range.1 hj)
theorem mem_orb {n : Nat} {L : List α} (h : Exact t n L) {x : α} (hx : x ∈ L) (k : Nat) : it t k x ∈ orb t n x := by
  rw [it_mod t h hx k]
  exact List.mem_map.2 ⟨k % n, List.mem_range.2 (Nat.mod_lt _ h.pos), rfl⟩
theorem filter_two {β : Type} (f : β → Bool) : ∀ l : List β, (l.filter f).length + (l.filter fun y => !f y).length = l.length
  | [] => rfl
  | y :: l => by
    have := filter_two f l
    cases hf : f y <;> simp [List.filter_cons, hf] <;> omega
theorem exact_dvd {n : Nat} : ∀ (N : Nat) (L : List α), L.length = N → Exact t n L → n ∣ L.length := by
  intro N
  induction N using Nat.strongRecOn with
  | _ N ih =>
    intro L hN h
    cases L with
    | nil => exact ⟨0, rfl⟩
    | cons x l =>
      have hx : x ∈ x :: l := List.mem_cons_self ..
      generalize x :: l = L at *
      have h1 := orb_nodup t h hx
      have hsplit : (L.filter (fun y => decide (y ∈ orb t n x))).length + (L.filter (fun y => !decide (y ∈ orb t n x))).length = L.length :=
        filter_two (fun y => decide (y ∈ orb t n x)) L
      have hperm : (L.filter (fun y => decide (y ∈ orb t n x))).Perm (orb t n x) := by
        refine (List.perm_ext_iff_of_nodup (h.nodup.filter _) h1).2 fun y => ?_
        rw [List.mem_filter]
        constructor
        · rintro ⟨_, hy⟩; exact of_decide_eq_true hy
        · intro hy
          refine ⟨?_, decide_eq_true hy⟩
          obtain ⟨i, _, rfl⟩ := List.mem_map.1 hy
          exact it_mem t h i x hx
      have hlen : (orb t n x).length = n := by unfold orb; simp
      rw [hperm.length_eq, hlen] at hsplit
      have h2 : Exact t n (L.filter (fun y => !decide (y ∈ orb t n x))) := by
        refine ⟨h.pos, fun y hy => ?_, fun y hy => h.whole y (List.mem_filter.1 hy).1, fun y hy => h.free y (List.mem_filter.1 hy).1, h.nodup.filter _⟩
        obtain ⟨ha, hb⟩ := List.mem_filter.1 hy
        refine List.mem_filter.2 ⟨h.inside y ha, ?_⟩
        have hb' : y ∉ orb t n x := by simpa using hb
        have : t y ∉ orb t n x := by
          intro hc
          obtain ⟨i, _, hi⟩ := List.mem_map.1 hc
          apply hb'
          have e : it t (n - 1) (t y) = y := by
            have := h.whole y ha
            rw [show n = (n - 1) + 1 by have := h.pos; omega] at this
            exact this
          rw [← e, ← hi, ← it_add]
          exact mem_orb t h hx _
        simpa using this
      have hn := h.pos
      have := ih _ (by omega) _ rfl h2
      obtain ⟨k, hk⟩ := this
      refine ⟨k + 1, ?_⟩
      rw [Nat.mul_add, ← hk, Nat.mul_one]; omega
end
section
variable {p : Nat} [NeZero p]
def nmul : Nat → Pt p → Pt p
  | 0, _ => .O
  | k + 1, P => (nmul k P).add P
theorem add_O (P : Pt p) : P.add .O = P := by cases P <;> rfl
theorem O_add (P : Pt p) : Pt.O.add P = P := by cases P <;> rfl
variable (G : Good p)
include G
theorem on_nmul : ∀ (k : Nat) {P : Pt p}, P.on → (nmul k P).on
  | 0, _, _ => trivial
  | k + 1, _, h => on_add G (on_nmul k h) h
theorem nmul_add (j : Nat) {P : Pt p} (h : P.on) : ∀ k, nmul (j + k) P = (nmul j P).add (nmul k P)
  | 0 => (add_O _).symm
  | k + 1 => by
    show (nmul (j + k) P).add P = (nmul j P).add ((nmul k P).add P)
    rw [nmul_add j h k, assoc G (on_nmul G j h) (on_nmul G k h) h]
theorem nmul_O : ∀ k, nmul k (.O : Pt p) = .O
  | 0 => rfl
  | k + 1 => by show (nmul k Pt.O).add .O = .O; rw [nmul_O k]; rfl
theorem nmul_mul (j : Nat) {P : Pt p} (h : P.on) : ∀ k, nmul (j * k) P = nmul k (nmul j P)
  | 0 => rfl
  | k + 1 => by
    show nmul (j * (k + 1)) P = (nmul k (nmul j P)).add (nmul j P)
    rw [Nat.mul_succ, nmul_add G _ h, nmul_mul j h k]
theorem nmul_sum : ∀ (k : Nat) {P Q : Pt p}, P.on → Q.on → nmul k (P.add Q) = (nmul k P).add (nmul k Q)
  | 0, _, _, _, _ => rfl
  | k + 1, P, Q, hP, hQ => by
    show (nmul k (P.add Q)).add (P.add Q) = ((nmul k P).add P).add ((nmul k Q).add Q)
    have a := on_nmul G k hP
    have b := on_nmul G k hQ
    rw [nmul_sum k hP hQ, assoc G a b (on_add G hP hQ), assoc G a hP (on_add G b hQ), ← assoc G b hP hQ, ← assoc G hP b hQ, add_comm' G b hP]
omit G in
def psum : List (Pt p) → Pt p
  | [] => .O
  | P :: l => P.add (psum l)
theorem on_psum : ∀ {l : List (Pt p)}, (∀ P ∈ l, P.on) → (psum l).on
  | [], _ => trivial
  | P :: l, h => on_add G (h P (List.mem_cons_self ..)) (on_psum fun Q hQ => h Q (List.mem_cons_of_mem _ hQ))
theorem psum_perm {l1 l2 : List (Pt p)} (h : l1.Perm l2) : (∀ P ∈ l1, P.on) → psum l1 = psum l2 := by
  induction h with
  | nil => intro _; rfl
  | cons P h ih => intro ho; show P.add _ = P.add _; rw [ih fun Q hQ => ho Q (List.mem_cons_of_mem _ hQ)]
  | swap P Q l =>
    intro ho
    have hP := ho P (by simp)
    have hQ := ho Q (by simp)
    have hl := on_psum G (l := l) fun R hR => ho R (by simp [hR])
    show Q.add (P.add (psum l)) = P.add (Q.add (psum l))
    rw [← assoc G hQ hP hl, ← assoc G hP hQ hl, add_comm' G hQ hP]
  | trans h1 h2 i1 i2 => intro ho; rw [i1 ho, i2 fun P hP => ho P (h1.mem_iff.2 hP)]
theorem psum_map {P : Pt p} (hP : P.on) : ∀ {l : List (Pt p)}, (∀ Q ∈ l, Q.on) → psum (l.map fun Q => Q.add P) = (psum l).add (nmul l.length P)
  | [], _ => rfl
  | Q :: l, h => by
    have hQ := h Q (List.mem_cons_self ..)
    have hl : ∀ R ∈ l, R.on := fun R hR => h R (List.mem_cons_of_mem _ hR)
    have a := on_psum G hl
    have b := on_nmul G l.length hP
    show (Q.add P).add (psum (l.map fun Q => Q.add P)) = (Q.add (psum l)).add ((nmul l.length P).add P)
    rw [psum_map hP hl, assoc G hQ hP (on_add G a b), assoc G hQ a (on_add G b hP), add_comm' G hP (on_add G a b), assoc G a b hP]
/-- every multiple by the number of all points is nothing -/
theorem all_zero {l : List (Pt p)} (ho : ∀ Q ∈ l, Q.on) (hall : ∀ Q : Pt p, Q.on → Q ∈ l) (hnd : l.Nodup) {P : Pt p} (hP : P.on) : nmul l.length P = .O := by
  have hperm : (l.map fun Q => Q.add P).Perm l := by
    refine map_perm l (fun Q => Q.add P) hnd (fun Q hQ => hall _ (on_add G (ho Q hQ) hP)) ?_
    intro A hA B hB e
    have hA' := ho A hA
    have hB' := ho B hB
    have e' : A.add P = B.add P := e
    rw [add_comm' G hA' hP, add_comm' G hB' hP] at e'
    rw [← cancel G hP hA', e', cancel G hP hB']
  have e := psum_perm G hperm (fun Q hQ => by obtain ⟨R, hR, rfl⟩ := List.mem_map.1 hQ; exact on_add G (ho R hR) hP)
  rw [psum_map G hP ho] at e
  have hs := on_psum G ho
  have := cancel G hs (on_nmul G l.length hP)
  rw [e, neg_add_self G hs] at this
  exact this.symm
end
section
variable {p : Nat} [NeZero p]
def nums (p : Nat) : List (Fin p) := List.finRange p
def col (x : Fin p) : List (Pt p) := ((List.finRange p).filter fun y => y * y == x * x * x + 7).map (Pt.A x)
def aff (p : Nat) [NeZero p] : List (Pt p) := (List.finRange p).flatMap col
def pts (p : Nat) [NeZero p] : List (Pt p) := .O :: aff p
theorem mem_aff {P : Pt p} : P ∈ aff p ↔ ∃ x y : Fin p, P = .A x y ∧ y * y = x * x * x + 7 := by
  unfold aff col
  simp only [List.mem_flatMap, List.mem_map, List.mem_filter, List.mem_finRange, true_and, beq_iff_eq]
  constructor
  · rintro ⟨x, y, h, rfl⟩; exact ⟨x, y, rfl, h⟩
  · rintro ⟨x, y, rfl, h⟩; exact ⟨x, y, h, rfl⟩
theorem on_pts : ∀ P ∈ pts p, P.on := by
  intro P hP
  rcases List.mem_cons.1 hP with rfl | h
  · trivial
  · obtain ⟨x, y, rfl, h2⟩ := mem_aff.1 h; exact h2
theorem all_pts : ∀ P : Pt p, P.on → P ∈ pts p
  | .O, _ => List.mem_cons_self ..
  | .A x y, h => List.mem_cons_of_mem _ (mem_aff.2 ⟨x, y, rfl, h⟩)
theorem nodup_col (x : Fin p) : (col x).Nodup := by
  unfold col List.Nodup
  rw [List.pairwise_map]
  refine ((List.nodup_finRange p).filter _).imp ?_
  intro a b hab e
  injection e with e1 e2
  exact hab e2
theorem nodup_aff : (aff p).Nodup := by
  unfold aff List.Nodup
  rw [List.pairwise_flatMap]
  refine ⟨fun x _ => nodup_col x, ?_⟩
  refine (List.nodup_finRange p).imp ?_
  intro a b hab P h1 Q h2 e
  subst e
  simp only [col, List.mem_map] at h1 h2
  obtain ⟨y, _, rfl⟩ := h1
  obtain ⟨z, _, e⟩ := h2
  injection e with e1 e2
  exact hab e1.symm
theorem nodup_pts : (pts p).Nodup := by
  refine List.nodup_cons.2 ⟨fun h => ?_, nodup_aff⟩
  obtain ⟨x, y, e, h2⟩ := mem_aff.1 h
  cases e
theorem few {l : List (Fin p)} (hn : l.Nodup) (h : ∀ a ∈ l, ∀ b ∈ l, a = b ∨ a = -b) : l.length ≤ 2 := by
  match l, hn, h with
  | [], _, _ => exact Nat.zero_le _
  | [_], _, _ => exact Nat.le_succ 1
  | [_, _], _, _ => exact Nat.le_refl _
  | a :: b :: c :: l, hn, h =>
    exfalso
    have h1 := h b (by simp) a (by simp)
    have h2 := h c (by simp) a (by simp)
    simp only [List.nodup_cons, List.mem_cons, not_or] at hn
    rcases h1 with h1 | h1
    · exact hn.1.1 h1.symm
    · rcases h2 with h2 | h2
      · exact hn.1.2.1 h2.symm
      · exact hn.2.1.1 (h1.trans h2.symm)
theorem col_le (h : Pr p) (x : Fin p) : (col x).length ≤ 2 := by
  unfold col
  rw [List.length_map]
  refine few ((List.nodup_finRange p).filter _) fun a ha b hb => ?_
  have e1 := (List.mem_filter.1 ha).2
  have e2 := (List.mem_filter.1 hb).2
  simp only [beq_iff_eq] at e1 e2
  have hz : (a - b) * (a + b) = 0 := by
    have e : a * a = b * b := e1.trans e2.symm
    clear e1 e2 ha hb
    grind
  rcases fmul_zero_of h _ _ hz with h1 | h1
  · left; clear e1 e2 ha hb hz; grind
  · right; clear e1 e2 ha hb hz; grind
theorem flat_le {α β : Type} (f : α → List β) (hf : ∀ a, (f a).length ≤ 2) : ∀ l : List α, (l.flatMap f).length ≤ 2 * l.length
  | [] => Nat.le_refl _
  | a :: l => by
    have h1 := flat_le f hf l
    have h2 := hf a
    rw [List.flatMap_cons, List.length_append, List.length_cons]
    omega
theorem pts_le (h : Pr p) : (pts p).length ≤ 2 * p + 1 := by
  have := flat_le col (col_le h) (List.finRange p)
  rw [List.length_finRange] at this
  show (aff p).length + 1 ≤ _
  unfold aff
  omega
theorem pts_odd (G : Good p) : (pts p).length % 2 = 1 := by
  have h : Exact Pt.neg 2 (aff p) := by
    refine ⟨by decide, ?_, ?_, ?_, nodup_aff⟩
    · intro P hP
      obtain ⟨x, y, rfl, h⟩ := mem_aff.1 hP
      refine mem_aff.2 ⟨x, -y, rfl, ?_⟩
      rw [← h]; clear h hP; grind
    · intro P _; exact neg_neg' P
    · intro P hP i h0 h2 e
      obtain rfl : i = 1 := by omega
      obtain ⟨x, y, rfl, h⟩ := mem_aff.1 hP
      have e : Pt.A x (-y) = Pt.A x y := e
      injection e with _ e2
      apply yy_ne G h
      clear h hP
      grind
  obtain ⟨k, hk⟩ := exact_dvd Pt.neg _ _ rfl h
  show ((aff p).length + 1) % 2 = 1
  omega
theorem it_add_pt (P : Pt p) (G : Good p) (hP : P.on) : ∀ (k : Nat) (Q : Pt p), Q.on → it (fun R => R.add P) k Q = Q.add (nmul k P)
  | 0, Q, _ => (add_O Q).symm
  | k + 1, Q, hQ => by
    show it (fun R => R.add P) k (Q.add P) = _
    have hk := on_nmul G k hP
    rw [it_add_pt P G hP k _ (on_add G hQ hP), assoc G hQ hP hk, add_comm' G hP hk]
    rfl
theorem nmul_gcd (G : Good p) {B : Pt p} (hB : B.on) (m k : Nat) : nmul m B = .O → nmul k B = .O → nmul (Nat.gcd m k) B = .O := by
  refine Nat.gcd.induction m k (P := fun m k => nmul m B = .O → nmul k B = .O → nmul (Nat.gcd m k) B = .O) ?_ ?_
  · intro k _ h; rw [Nat.gcd_zero_left]; exact h
  · intro m k _ ih hm hk
    rw [Nat.gcd_rec]
    refine ih ?_ hm
    have e : nmul k B = (nmul (m * (k / m)) B).add (nmul (k % m) B) := by rw [← nmul_add G _ hB, Nat.div_add_mod]
    rw [hk, nmul_mul G m hB, hm, nmul_O G] at e
    exact e.symm
theorem order (G : Good p) {n : Nat} (hn : Pr n) {B : Pt p} (hB : B.on) (h0 : B ≠ .O) (h : nmul n B = .O) (hlt : 2 * p + 1 < 3 * n) {P : Pt p} (hP : P.on) : nmul n P = .O := by
  have hx : Exact (fun R => R.add B) n (pts p) := by
    refine ⟨by have := hn.1; omega, fun Q hQ => all_pts _ (on_add G (on_pts Q hQ) hB), fun Q hQ => ?_, fun Q hQ i hi hin e => ?_, nodup_pts⟩
    · rw [it_add_pt B G hB n Q (on_pts Q hQ), h, add_O]
    · have hQ' := on_pts Q hQ
      rw [it_add_pt B G hB i Q hQ'] at e
      have hz : nmul i B = .O := by
        have c1 := cancel G hQ' (on_nmul G i hB)
        rw [e, neg_add_self G hQ'] at c1
        exact c1.symm
      have hg := nmul_gcd G hB i n hz h
      have hc : Nat.gcd i n = 1 := by
        rcases hn.2 (Nat.gcd i n) (Nat.gcd_dvd_right i n) with h1 | h1
        · exact h1
        · have := Nat.le_of_dvd hi (Nat.gcd_dvd_left i n); omega
      rw [hc] at hg
      apply h0
      rw [← hg]; exact (O_add B).symm
  obtain ⟨k, hk⟩ := exact_dvd _ _ _ rfl hx
  have hle := pts_le (p := p) G.prime
  have hodd := pts_odd G
  have hpos : 0 < (pts p).length := by show 0 < (aff p).length + 1; omega
  have hk1 : k = 1 := by
    rcases Nat.lt_or_ge k 3 with h3 | h3
    · match k, h3 with
      | 0, _ => rw [hk] at hpos; omega
      | 1, _ => rfl
      | 2, _ => rw [hk] at hodd; omega
    · have := Nat.mul_le_mul_left n h3
      omega
  rw [hk1, Nat.mul_one] at hk
  rw [← hk]
  exact all_zero G on_pts all_pts nodup_pts hP
end
section
variable {p : Nat} [NeZero p]
theorem fpow_three (x : Fin p) (k : Nat) : fpow (x * x * x) k = fpow x (3 * k) := by
  rw [fpow_mul]
  have : fpow x 3 = x * x * x := by
    show 1 * x * x * x = x * x * x
    grind
  rw [this]
theorem no_cube (h : Pr p) (h3 : p % 3 = 1) (h7 : (7 : Fin p) ≠ 0) (e : fpow (-7 : Fin p) ((p - 1) / 3) ≠ 1) : ∀ x : Fin p, x * x * x + 7 ≠ 0 := by
  intro x hx
  have e1 : x * x * x = -7 := by clear e h7; grind
  have hx0 : x ≠ 0 := by
    rintro rfl
    apply h7
    clear e e1 h7
    grind
  apply e
  rw [← e1, fpow_three, show 3 * ((p - 1) / 3) = p - 1 by omega]
  exact fermat h x hx0
end
end EM
end Go.Proofs.Ytmpejkhffbonnaa
