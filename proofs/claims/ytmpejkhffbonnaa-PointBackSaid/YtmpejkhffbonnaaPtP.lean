/- Points as the program and the reference keep them: weighted points, fractions, the order. Plain law, no program here. -/
import Derived.Test.YtmpejkhffbonnaaCurveP
import Derived.Test.YtmpejkhffbonnaaSh2P
namespace Go.Proofs.Ytmpejkhffbonnaa
namespace EM
set_option linter.unusedSectionVars false
section
variable {p : Nat} [NeZero p]
/-- a weighted point stands for a point -/
def Jac (X Y Z : Fin p) (T : Pt p) : Prop := (Z = 0 ∧ T = .O) ∨ (Z ≠ 0 ∧ ∃ x y, T = .A x y ∧ y * y = x * x * x + 7 ∧ X = x * (Z * Z) ∧ Y = y * (Z * Z * Z))
/-- a fraction stands for a point -/
def Frc (X Y Z : Fin p) (T : Pt p) : Prop := (Z = 0 ∧ T = .O) ∨ (Z ≠ 0 ∧ ∃ x y, T = .A x y ∧ y * y = x * x * x + 7 ∧ X = x * Z ∧ Y = y * Z)
theorem fmul_ne (h : Pr p) {a b : Fin p} (ha : a ≠ 0) (hb : b ≠ 0) : a * b ≠ 0 := fun h0 => (fmul_zero_of h _ _ h0).elim ha hb
theorem Jac.on {X Y Z : Fin p} {T : Pt p} (h : Jac X Y Z T) : T.on := by
  rcases h with ⟨_, rfl⟩ | ⟨_, x, y, rfl, h, _⟩
  · trivial
  · exact h
theorem Frc.on {X Y Z : Fin p} {T : Pt p} (h : Frc X Y Z T) : T.on := by
  rcases h with ⟨_, rfl⟩ | ⟨_, x, y, rfl, h, _⟩
  · trivial
  · exact h
variable (G : Good p)
include G
theorem jac_y_ne {X Y Z : Fin p} {T : Pt p} (h : Jac X Y Z T) (hz : Z ≠ 0) : Y ≠ 0 := by
  rcases h with ⟨h0, _⟩ | ⟨_, x, y, rfl, hc, hx, hy⟩
  · exact absurd h0 hz
  · rw [hy]
    exact fmul_ne G.prime (y_ne G hc) (fmul_ne G.prime (fmul_ne G.prime hz hz) hz)
theorem jac_zero {X Y Z : Fin p} {T : Pt p} (h : Jac X Y Z T) (hz : Z = 0 ∨ Y = 0) : T = .O := by
  by_cases h0 : Z = 0
  · rcases h with ⟨_, h⟩ | ⟨h1, _⟩
    · exact h
    · exact absurd h0 h1
  · exact absurd (hz.resolve_left h0) (jac_y_ne G h h0)
/-- a slope for a doubled point -/
theorem dbl_slope {x y : Fin p} (h : y * y = x * x * x + 7) : ∃ t, t * (y + y) = 3 * (x * x) ∧ Pt.add (.A x y) (.A x y) = .A (t * t - x - x) (t * (x - (t * t - x - x)) - y) := by
  have hn : ¬ Opp x y x y := by
    rintro ⟨_, h1⟩
    exact yy_ne G h (by clear h; grind)
  have hs := isSlope_slope G h h hn
  refine ⟨slope x y x y, ?_, add_eq G h h hn hs⟩
  have := hs.2
  rw [this]; clear this hs h hn; grind
theorem sum_slope {x1 y1 x2 y2 : Fin p} (h1 : y1 * y1 = x1 * x1 * x1 + 7) (h2 : y2 * y2 = x2 * x2 * x2 + 7) (hx : x1 ≠ x2) : ∃ t, t * (x1 - x2) = y1 - y2 ∧ Pt.add (.A x1 y1) (.A x2 y2) = .A (t * t - x1 - x2) (t * (x1 - (t * t - x1 - x2)) - y1) := by
  have hn : ¬ Opp x1 y1 x2 y2 := fun h => hx h.1
  have hs := isSlope_slope G h1 h2 hn
  exact ⟨slope x1 y1 x2 y2, hs.1, add_eq G h1 h2 hn hs⟩
theorem on_dbl {x y : Fin p} (h : y * y = x * x * x + 7) {a b : Fin p} (e : Pt.add (.A x y) (.A x y) = .A a b) : b * b = a * a * a + 7 := by
  have := on_add G (P := .A x y) (Q := .A x y) h h
  rw [e] at this; exact this
theorem jac_dbl {X Y Z : Fin p} {T : Pt p} (h : Jac X Y Z T) (hz : ¬ (Z = 0 ∨ Y = 0)) {y2 s m x y z : Fin p} (e1 : y2 = Y * Y) (e2 : s = 4 * (X * y2)) (e3 : m = 3 * (X * X)) (e4 : x = m * m - 2 * s) (e5 : y = m * (s - x) - 8 * (y2 * y2)) (e6 : z = 2 * (Y * Z)) :
    Jac x y z (T.add T) := by
  have hz0 : Z ≠ 0 := fun h => hz (.inl h)
  have hy0 : Y ≠ 0 := fun h => hz (.inr h)
  rcases h with ⟨h0, _⟩ | ⟨_, u, v, rfl, hc, hX, hY⟩
  · exact absurd h0 hz0
  · obtain ⟨t, ht, hadd⟩ := dbl_slope G hc
    refine .inr ⟨?_, _, _, hadd, on_dbl G hc hadd, ?_, ?_⟩
    · rw [e6]; exact fmul_ne G.prime G.two (fmul_ne G.prime hy0 hz0)
    · have hm : m = t * z := by rw [e3, e6, hX, hY]; clear e1 e2 e3 e4 e5 e6 hadd hc; grind
      have hs : s = u * (z * z) := by rw [e2, e1, e6, hX, hY]; clear e1 e2 e3 e4 e5 e6 hadd hc ht hm; grind
      rw [e4, hm, hs]; clear e1 e2 e3 e4 e5 e6 hadd hc ht hm hs hX hY; grind
    · have hm : m = t * z := by rw [e3, e6, hX, hY]; clear e1 e2 e3 e4 e5 e6 hadd hc; grind
      have hs : s = u * (z * z) := by rw [e2, e1, e6, hX, hY]; clear e1 e2 e3 e4 e5 e6 hadd hc ht hm; grind
      have hx : x = (t * t - u - u) * (z * z) := by rw [e4, hm, hs]; clear e1 e2 e3 e4 e5 e6 hadd hc ht hm hs hX hY; grind
      have h8 : 8 * (y2 * y2) = v * (z * z * z) := by rw [e1, e6, hY]; clear e1 e2 e3 e4 e5 e6 hadd hc ht hm hs hX hY hx; grind
      rw [e5, h8, hx, hm, hs]; clear e1 e2 e3 e4 e5 e6 hadd hc ht hm hs hX hY hx h8; grind
omit G in
theorem pt_add_self_O : Pt.add (.O : Pt p) .O = .O := rfl
/-- the sum: h, r as the program has them -/
theorem jac_h {X1 Y1 Z1 X2 Y2 Z2 : Fin p} {P Q : Pt p} (hP : Jac X1 Y1 Z1 P) (hQ : Jac X2 Y2 Z2 Q) (z1 : Z1 ≠ 0) (z2 : Z2 ≠ 0) {u1 u2 s1 s2 h r : Fin p}
    (e1 : u1 = X1 * (Z2 * Z2)) (e2 : u2 = X2 * (Z1 * Z1)) (e3 : s1 = Y1 * (Z2 * Z2 * Z2)) (e4 : s2 = Y2 * (Z1 * Z1 * Z1)) (e5 : h = u2 - u1) (e6 : r = s2 - s1) :
    (h = 0 → r = 0 → P.add Q = P.add P) ∧ (h = 0 → r ≠ 0 → P.add Q = .O) ∧ (∀ {h2 h3 v x y z : Fin p}, h ≠ 0 → h2 = h * h → h3 = h2 * h → v = u1 * h2 → x = r * r - h3 - 2 * v → y = r * (v - x) - s1 * h3 → z = h * (Z1 * Z2) → Jac x y z (P.add Q)) := by
  rcases hP with ⟨h0, _⟩ | ⟨_, x1, y1, rfl, hc1, hX1, hY1⟩
  · exact absurd h0 z1
  rcases hQ with ⟨h0, _⟩ | ⟨_, x2, y2, rfl, hc2, hX2, hY2⟩
  · exact absurd h0 z2
  have hZ : Z1 * Z2 ≠ 0 := fmul_ne G.prime z1 z2
  obtain ⟨Z, hZe⟩ : ∃ Z, Z1 * Z2 = Z := ⟨_, rfl⟩
  rw [hZe] at hZ ⊢
  have hu1 : u1 = x1 * (Z * Z) := by rw [e1, hX1, ← hZe]; clear hc1 hc2 hX1 hX2 hY1 hY2 e1 e2 e3 e4 e5 e6 hZe; grind
  have hu2 : u2 = x2 * (Z * Z) := by rw [e2, hX2, ← hZe]; clear hc1 hc2 hX1 hX2 hY1 hY2 e1 e2 e3 e4 e5 e6 hZe hu1; grind
  have hs1 : s1 = y1 * (Z * Z * Z) := by rw [e3, hY1, ← hZe]; clear hc1 hc2 hX1 hX2 hY1 hY2 e1 e2 e3 e4 e5 e6 hZe hu1 hu2; grind
  have hs2 : s2 = y2 * (Z * Z * Z) := by rw [e4, hY2, ← hZe]; clear hc1 hc2 hX1 hX2 hY1 hY2 e1 e2 e3 e4 e5 e6 hZe hu1 hu2 hs1; grind
  clear e1 e2 e3 e4 hX1 hX2 hY1 hY2 hZe
  have ZZ := fmul_ne G.prime hZ hZ
  have ZZZ := fmul_ne G.prime ZZ hZ
  have hx0 : h = 0 → x1 = x2 := fun hh => by
    refine fcancel G.prime ZZ ?_
    rw [hh, hu1, hu2] at e5
    clear hu1 hu2 hs1 hs2 hc1 hc2; grind
  have hr0 : r = 0 → y1 = y2 := fun hh => by
    refine fcancel G.prime ZZZ ?_
    rw [hh, hs1, hs2] at e6
    clear hu1 hu2 hs1 hs2 hc1 hc2; grind
  refine ⟨fun h0 h1 => ?_, fun h0 h1 => ?_, fun {h2 h3 v x y z} h0 f1 f2 f3 f4 f5 f6 => ?_⟩
  · rw [hx0 h0, hr0 h1]
  · have hy : y1 ≠ y2 := by
      rintro rfl
      apply h1
      rw [e6, hs1, hs2]; clear hu1 hu2 hs1 hs2 hc1 hc2; grind
    exact if_pos ⟨hx0 h0, .inl hy⟩
  · have hx : x1 ≠ x2 := by
      rintro rfl
      apply h0
      rw [e5, hu1, hu2]; clear hu1 hu2 hs1 hs2 hc1 hc2; grind
    obtain ⟨t, ht, hadd⟩ := sum_slope G hc1 hc2 hx
    have hon := on_add G (P := .A x1 y1) (Q := .A x2 y2) hc1 hc2
    rw [hadd] at hon ⊢
    have hr : r = t * z := by rw [e6, hs1, hs2, f6, e5, hu1, hu2]; clear hu1 hu2 hs1 hs2 hc1 hc2 e5 e6 f1 f2 f3 f4 f5 f6 hadd hon hx0 hr0; grind
    have hv : v = x1 * (z * z) := by rw [f3, f1, hu1, f6]; clear hu1 hu2 hs1 hs2 hc1 hc2 e5 e6 f1 f2 f3 f4 f5 f6 hadd hon hx0 hr0 hr ht; grind
    have hh3 : h3 = (x2 - x1) * (z * z) := by
      rw [f2, f1, f6]
      have : h = (x2 - x1) * (Z * Z) := by rw [e5, hu1, hu2]; clear hu1 hu2 hs1 hs2 hc1 hc2 e5 e6 f1 f2 f3 f4 f5 f6 hadd hon hx0 hr0 hr ht hv; grind
      clear hu1 hu2 hs1 hs2 hc1 hc2 e5 e6 f1 f2 f3 f4 f5 f6 hadd hon hx0 hr0 hr ht hv; grind
    have hsh : s1 * h3 = y1 * (z * z * z) := by
      rw [hs1, f2, f1, f6]; clear hu1 hu2 hs1 hs2 hc1 hc2 e5 e6 f1 f2 f3 f4 f5 f6 hadd hon hx0 hr0 hr ht hv hh3; grind
    have hxx : x = (t * t - x1 - x2) * (z * z) := by
      rw [f4, hr, hh3, hv]; clear hu1 hu2 hs1 hs2 hc1 hc2 e5 e6 f1 f2 f3 f4 f5 f6 hadd hon hx0 hr0 hr ht hv hh3 hsh; grind
    refine .inr ⟨by rw [f6]; exact fmul_ne G.prime h0 hZ, _, _, rfl, hon, hxx, ?_⟩
    rw [f5, hsh, hr, hv, hxx]; clear hu1 hu2 hs1 hs2 hc1 hc2 e5 e6 f1 f2 f3 f4 f5 f6 hadd hon hx0 hr0 hr ht hv hh3 hsh hxx; grind
/-- fractions -/
theorem frc_dbl {X Y Z : Fin p} {T : Pt p} (h : Frc X Y Z T) {w s b g ys x y z : Fin p} (e1 : w = 3 * (X * X)) (e2 : s = Y * Z) (e3 : b = X * Y * s) (e4 : g = w * w - 8 * b) (e5 : ys = Y * s) (e6 : x = 2 * (g * s)) (e7 : y = w * (4 * b - g) - 8 * (ys * ys)) (e8 : z = 8 * (s * (s * s))) :
    Frc x y z (T.add T) := by
  rcases h with ⟨h0, rfl⟩ | ⟨hz, u, v, rfl, hc, hX, hY⟩
  · refine .inl ⟨?_, rfl⟩
    rw [e8, e2, h0]; clear e1 e2 e3 e4 e5 e6 e7 e8 h0; grind
  · obtain ⟨t, ht, hadd⟩ := dbl_slope G hc
    have hs : s = v * (Z * Z) := by rw [e2, hY]; clear e1 e2 e3 e4 e5 e6 e7 e8 hadd hc ht; grind
    have hs0 : s ≠ 0 := by rw [hs]; exact fmul_ne G.prime (y_ne G hc) (fmul_ne G.prime hz hz)
    have hw : w = 2 * (t * s) := by rw [e1, hX, hs]; clear e1 e2 e3 e4 e5 e6 e7 e8 hadd hc hs hs0; grind
    have hb : b = u * (s * s) := by rw [e3, hX, hY, hs]; clear e1 e2 e3 e4 e5 e6 e7 e8 hadd hc hs hs0 hw ht; grind
    have hg : g = 4 * (s * s) * (t * t - u - u) := by rw [e4, hw, hb]; clear e1 e2 e3 e4 e5 e6 e7 e8 hadd hc hs hs0 hw ht hb; grind
    have hys : ys * ys = v * (s * s * s) := by rw [e5, hY]; rw [hs]; clear e1 e2 e3 e4 e5 e6 e7 e8 hadd hc hs hs0 hw ht hb hg; grind
    have h2 := G.two
    have h8 : (8 : Fin p) ≠ 0 := by
      have := fmul_ne G.prime h2 (fmul_ne G.prime h2 h2)
      intro h0; apply this; clear e1 e2 e3 e4 e5 e6 e7 e8 hadd hc hs hs0 hw ht hb hg hys; grind
    refine .inr ⟨by rw [e8]; exact fmul_ne G.prime h8 (fmul_ne G.prime hs0 (fmul_ne G.prime hs0 hs0)), _, _, hadd, on_dbl G hc hadd, ?_, ?_⟩
    · rw [e6, e8, hg]; clear e1 e2 e3 e4 e5 e6 e7 e8 hadd hc hs hs0 hw ht hb hg hys h8 h2; grind
    · rw [e7, e8, hys, hg, hb, hw]; clear e1 e2 e3 e4 e5 e6 e7 e8 hadd hc hs hs0 hw ht hb hg hys h8 h2; grind
theorem frc_v {X1 Y1 Z1 X2 Y2 Z2 : Fin p} {P Q : Pt p} (hP : Frc X1 Y1 Z1 P) (hQ : Frc X2 Y2 Z2 Q) (z1 : Z1 ≠ 0) (z2 : Z2 ≠ 0) {px py u v zz : Fin p}
    (e1 : px = X1 * Z2) (e2 : py = Y1 * Z2) (e3 : u = Y2 * Z1 - py) (e4 : v = X2 * Z1 - px) (e5 : zz = Z1 * Z2) :
    (v = 0 → u = 0 → P.add Q = P.add P) ∧ (v = 0 → u ≠ 0 → P.add Q = .O) ∧ (∀ {v2 v3 r a x y z : Fin p}, v ≠ 0 → v2 = v * v → v3 = v2 * v → r = v2 * px → a = u * u * zz - v3 - (r + r) → x = v * a → y = u * (r - a) - v3 * py → z = v3 * zz → Frc x y z (P.add Q)) := by
  rcases hP with ⟨h0, _⟩ | ⟨_, x1, y1, rfl, hc1, hX1, hY1⟩
  · exact absurd h0 z1
  rcases hQ with ⟨h0, _⟩ | ⟨_, x2, y2, rfl, hc2, hX2, hY2⟩
  · exact absurd h0 z2
  have hZ : zz ≠ 0 := by rw [e5]; exact fmul_ne G.prime z1 z2
  have hpx : px = x1 * zz := by rw [e1, hX1, e5]; clear hc1 hc2 hX1 hX2 hY1 hY2 e1 e2 e3 e4 e5; grind
  have hpy : py = y1 * zz := by rw [e2, hY1, e5]; clear hc1 hc2 hX1 hX2 hY1 hY2 e1 e2 e3 e4 e5 hpx; grind
  have hv : v = (x2 - x1) * zz := by rw [e4, hpx, hX2, e5]; clear hc1 hc2 hX1 hX2 hY1 hY2 e1 e2 e3 e4 e5 hpx hpy; grind
  have hu : u = (y2 - y1) * zz := by rw [e3, hpy, hY2, e5]; clear hc1 hc2 hX1 hX2 hY1 hY2 e1 e2 e3 e4 e5 hpx hpy hv; grind
  clear e1 e2 e3 e4 e5 hX1 hX2 hY1 hY2
  have hx0 : v = 0 → x1 = x2 := fun hh => by
    refine fcancel G.prime hZ ?_
    rw [hh] at hv
    clear hu hc1 hc2; grind
  have hr0 : u = 0 → y1 = y2 := fun hh => by
    refine fcancel G.prime hZ ?_
    rw [hh] at hu
    clear hv hc1 hc2 hx0; grind
  refine ⟨fun h0 h1 => ?_, fun h0 h1 => ?_, fun {v2 v3 r a x y z} h0 f1 f2 f3 f4 f5 f6 f7 => ?_⟩
  · rw [hx0 h0, hr0 h1]
  · have hy : y1 ≠ y2 := by
      rintro rfl
      apply h1
      rw [hu]; clear hu hv hc1 hc2 hx0 hr0; grind
    exact if_pos ⟨hx0 h0, .inl hy⟩
  · have hx : x1 ≠ x2 := by
      rintro rfl
      apply h0
      rw [hv]; clear hu hv hc1 hc2 hx0 hr0; grind
    obtain ⟨t, ht, hadd⟩ := sum_slope G hc1 hc2 hx
    have hon := on_add G (P := .A x1 y1) (Q := .A x2 y2) hc1 hc2
    rw [hadd] at hon ⊢
    have hut : u = t * v := by rw [hu, hv]; clear hu hv hc1 hc2 hx0 hr0 f1 f2 f3 f4 f5 f6 f7 hadd hon hpx hpy; grind
    have ha : a = v * v * zz * (t * t - x1 - x2) := by
      have : v3 = v * v * ((x2 - x1) * zz) := by rw [f2, f1, ← hv]
      rw [f4, hut, this, f3, f1, hpx]; clear this hu hv hc1 hc2 hx0 hr0 f1 f2 f3 f4 f5 f6 f7 hadd hon hpx hpy hut ht; grind
    refine .inr ⟨by rw [f7, f2, f1]; exact fmul_ne G.prime (fmul_ne G.prime (fmul_ne G.prime h0 h0) h0) hZ, _, _, rfl, hon, ?_, ?_⟩
    · rw [f5, f7, ha, f2, f1]; clear hu hv hc1 hc2 hx0 hr0 f1 f2 f3 f4 f5 f6 f7 hadd hon hpx hpy hut ht ha; grind
    · rw [f6, f7, f3, ha, hut, f2, f1, hpx, hpy]; clear hu hv hc1 hc2 hx0 hr0 f1 f2 f3 f4 f5 f6 f7 hadd hon hpx hpy hut ht ha; grind
/-- what a weighted point is -/
theorem jac_plain {X Y Z : Fin p} {T : Pt p} (h : Jac X Y Z T) (hz : Z ≠ 0) {i i2 : Fin p} (e1 : i = finv Z) (e2 : i2 = i * i) : T = .A (X * i2) (Y * (i2 * i)) := by
  rcases h with ⟨h0, _⟩ | ⟨_, x, y, rfl, hc, hX, hY⟩
  · exact absurd h0 hz
  have hi := finv_mul G.prime Z hz
  rw [← e1] at hi
  have a1 : X * i2 = x := by rw [hX, e2]; clear e1 e2 hX hY hc; grind
  have a2 : Y * (i2 * i) = y := by rw [hY, e2]; clear e1 e2 hX hY hc a1; grind
  rw [a1, a2]
theorem frc_plain {X Y Z : Fin p} {T : Pt p} (h : Frc X Y Z T) (hz : Z ≠ 0) {i : Fin p} (e1 : i = finv Z) : T = .A (X * i) (Y * i) := by
  rcases h with ⟨h0, _⟩ | ⟨_, x, y, rfl, hc, hX, hY⟩
  · exact absurd h0 hz
  have hi := finv_mul G.prime Z hz
  rw [← e1] at hi
  have a1 : X * i = x := by rw [hX]; clear e1 hX hY hc; grind
  have a2 : Y * i = y := by rw [hY]; clear e1 hX hY hc a1; grind
  rw [a1, a2]
omit G in
theorem jac_O {X Y Z : Fin p} {T : Pt p} (h : Jac X Y Z T) (hz : Z = 0) : T = .O := by
  rcases h with ⟨_, h⟩ | ⟨h1, _⟩
  · exact h
  · exact absurd hz h1
omit G in
theorem frc_O {X Y Z : Fin p} {T : Pt p} (h : Frc X Y Z T) (hz : Z = 0) : T = .O := by
  rcases h with ⟨_, h⟩ | ⟨h1, _⟩
  · exact h
  · exact absurd hz h1
end
end EM
theorem Pf_two : (2 : Fin Pf) ≠ 0 := by
  intro h
  have := congrArg Fin.val h
  revert this
  decide
theorem Pf_seven : (7 : Fin Pf) ≠ 0 := by
  intro h
  have := congrArg Fin.val h
  revert this
  decide
theorem Pf_cube : EM.fpow (-7 : Fin Pf) ((Pf - 1) / 3) ≠ 1 := by
  intro h
  have h1 := congrArg Fin.val h
  have e : (-7 : Fin Pf) = fe (Pf - 7) := by decide
  rw [e, EM.fpow_val, fe_val, ← Nat.pow_mod, ← EM.mp_eq Pf 256 _ _ (by decide)] at h1
  revert h1
  decide +kernel
theorem Pf_good : EM.Good Pf := ⟨EM.pr_field, Pf_two, EM.no_cube EM.pr_field (by decide) Pf_seven Pf_cube⟩

/-- the numbers of a point -/
def px : EM.Pt Pf → Nat
  | .O => 0
  | .A x _ => x.val
def py : EM.Pt Pf → Nat
  | .O => 0
  | .A _ y => y.val
def pz : EM.Pt Pf → Bool
  | .O => true
  | .A _ _ => false
theorem px_ltP : ∀ T, px T < Pf
  | .O => Pf_pos
  | .A x _ => x.isLt
theorem py_ltP : ∀ T, py T < Pf
  | .O => Pf_pos
  | .A _ y => y.isLt
theorem px_lt (T : EM.Pt Pf) : px T < 2 ^ 256 := Nat.lt_trans (px_ltP T) Pf_lt
theorem py_lt (T : EM.Pt Pf) : py T < 2 ^ 256 := Nat.lt_trans (py_ltP T) Pf_lt
theorem fe_of_val (x : Fin Pf) : fe x.val = x := Fin.ext (Nat.mod_eq_of_lt x.isLt)
theorem pt_inj {P Q : EM.Pt Pf} (hx : px P = px Q) (hy : py P = py Q) (hz : pz P = pz Q) : P = Q := by
  cases P <;> cases Q <;> simp_all [px, py, pz]
  exact ⟨Fin.ext hx, Fin.ext hy⟩
/-- the right side of the curve's equation -/
def rgt (x : Nat) : Nat := (x * x % Pf * x % Pf + 7) % Pf
theorem fe_rgt (x : Nat) : fe (rgt x) = fe x * fe x * fe x + 7 := by
  unfold rgt
  rw [fe_mod, fe_add, fe_mod, fe_mul, fe_mod, fe_mul]; rfl
def affB (x y : Nat) : Bool := decide (x < Pf) && (decide (y < Pf) && decide (y * y % Pf = rgt x))
def onB (x y : Nat) (z : Bool) : Bool := if z = true then decide (x = 0) && decide (y = 0) else affB x y
/-- the point that numbers stand for; zero, if they stand for none -/
def ptOf (x y : Nat) (z : Bool) : EM.Pt Pf := if z = true then .O else if affB x y = true then .A (fe x) (fe y) else .O
theorem affB_iff {x y : Nat} : affB x y = true ↔ x < Pf ∧ y < Pf ∧ fe y * fe y = fe x * fe x * fe x + 7 := by
  unfold affB
  simp only [Bool.and_eq_true, decide_eq_true_eq]
  rw [← fe_rgt, ← fe_mul, fe_eq, show rgt x % Pf = rgt x from Nat.mod_mod _ _]
theorem pt_on (x y : Nat) (z : Bool) : (ptOf x y z).on := by
  unfold ptOf
  split
  · trivial
  · split
    · rename_i h
      exact (affB_iff.1 h).2.2
    · trivial
theorem pt_back {T : EM.Pt Pf} (h : T.on) : ptOf (px T) (py T) (pz T) = T := by
  cases T with
  | O => rfl
  | A x y =>
    have e : affB x.val y.val = true := affB_iff.2 ⟨x.isLt, y.isLt, by rw [fe_of_val, fe_of_val]; exact h⟩
    show (if affB x.val y.val = true then EM.Pt.A (fe x.val) (fe y.val) else .O) = _
    rw [if_pos e, fe_of_val, fe_of_val]
theorem on_back {T : EM.Pt Pf} (h : T.on) : onB (px T) (py T) (pz T) = true := by
  cases T with
  | O => rfl
  | A x y =>
    show affB x.val y.val = true
    exact affB_iff.2 ⟨x.isLt, y.isLt, by rw [fe_of_val, fe_of_val]; exact h⟩
theorem on_yes {x y : Nat} {z : Bool} (h : onB x y z = true) : px (ptOf x y z) = x ∧ py (ptOf x y z) = y ∧ pz (ptOf x y z) = z := by
  unfold onB at h
  unfold ptOf
  cases z with
  | true =>
    simp only [if_true, Bool.and_eq_true, decide_eq_true_eq] at h ⊢
    exact ⟨h.1.symm, h.2.symm, rfl⟩
  | false =>
    simp only [Bool.false_eq_true, if_false] at h ⊢
    rw [if_pos h]
    have := affB_iff.1 h
    exact ⟨Nat.mod_eq_of_lt this.1, Nat.mod_eq_of_lt this.2.1, rfl⟩
theorem on_no {x y : Nat} {z : Bool} (h : ¬ onB x y z = true) : ptOf x y z = .O := by
  unfold onB at h
  unfold ptOf
  cases z with
  | true => rfl
  | false =>
    simp only [Bool.false_eq_true, if_false] at h ⊢
    rw [if_neg h]
theorem pz_O {T : EM.Pt Pf} (h : pz T = true) : T = .O := by
  cases T with
  | O => rfl
  | A _ _ => cases h
theorem pz_A {T : EM.Pt Pf} (h : pz T = false) : T = .A (fe (px T)) (fe (py T)) := by
  cases T with
  | O => cases h
  | A x y => show EM.Pt.A x y = .A (fe x.val) (fe y.val); rw [fe_of_val, fe_of_val]
theorem px_A {x y : Nat} (h : x < Pf) : px (.A (fe x) (fe y)) = x := Nat.mod_eq_of_lt h
theorem py_A {x y : Nat} (h : y < Pf) : py (.A (fe x) (fe y)) = y := Nat.mod_eq_of_lt h
theorem on_aff {T : EM.Pt Pf} (h : T.on) (hz : pz T = false) : py T * py T % Pf = rgt (px T) := by
  refine fe_inj (fmod_lt _) (Nat.mod_lt _ Pf_pos) ?_
  rw [fe_mod, fe_mul, fe_rgt]
  cases T with
  | O => cases hz
  | A x y =>
    show fe y.val * fe y.val = fe x.val * fe x.val * fe x.val + 7
    rw [fe_of_val, fe_of_val]
    exact h
/-- the negative -/
theorem neg_A {T : EM.Pt Pf} (hz : pz T = false) : px T.neg = px T ∧ py T.neg = fsub 0 (py T) ∧ pz T.neg = false := by
  have e := pz_A hz
  refine ⟨?_, ?_, ?_⟩
  · rw [e]; rfl
  · refine fe_inj (py_ltP _) (fsub_ltP _ _) ?_
    rw [fe_sub, fe_zero]
    rw [e]
    show fe (-fe (py T)).val = 0 - fe (fe (py T)).val
    rw [fe_of_val, fe_of_val]
    grind
  · rw [e]; rfl
theorem neg_O {T : EM.Pt Pf} (hz : pz T = true) : T.neg = .O := by rw [pz_O hz]; rfl

/-- weighted points, in numbers -/
def JN (x y z : Nat) (T : EM.Pt Pf) : Prop := x < Pf ∧ y < Pf ∧ z < Pf ∧ EM.Jac (fe x) (fe y) (fe z) T
def FN (x y z : Nat) (T : EM.Pt Pf) : Prop := x < Pf ∧ y < Pf ∧ z < Pf ∧ EM.Frc (fe x) (fe y) (fe z) T
theorem fe0 {a : Nat} (h : a < Pf) : fe a = 0 ↔ a = 0 := ⟨fun e => fe_inj h Pf_pos e, fun e => by rw [e]; rfl⟩
theorem fe_lit (n : Nat) : fe n = Fin.ofNat Pf n := rfl
theorem JN.on {x y z : Nat} {T : EM.Pt Pf} (h : JN x y z T) : T.on := h.2.2.2.on
theorem FN.on {x y z : Nat} {T : EM.Pt Pf} (h : FN x y z T) : T.on := h.2.2.2.on
abbrev Tri := Nat × Nat × Nat
def dblm (x : Nat) : Nat := 3 * (x * x % Pf) % Pf
def dbls (x y : Nat) : Nat := 4 * (x * (y * y % Pf) % Pf) % Pf
def dblx (x y : Nat) : Nat := fsub (dblm x * dblm x % Pf) (2 * dbls x y % Pf)
def dbly (x y : Nat) : Nat := fsub (dblm x * fsub (dbls x y) (dblx x y) % Pf) (8 * (y * y % Pf * (y * y % Pf) % Pf) % Pf)
def dblz (y z : Nat) : Nat := 2 * (y * z % Pf) % Pf
def dJ (x y z : Nat) : Tri := if z = 0 ∨ y = 0 then (1, 1, 0) else (dblx x y, dbly x y, dblz y z)
theorem one_lt : 1 < Pf := by decide
theorem jn_O (x y : Nat) (hx : x < Pf) (hy : y < Pf) : JN x y 0 .O := ⟨hx, hy, Pf_pos, .inl ⟨rfl, rfl⟩⟩
theorem fn_O : FN 0 0 0 .O := ⟨Pf_pos, Pf_pos, Pf_pos, .inl ⟨rfl, rfl⟩⟩
theorem fe_mm (a b : Nat) : fe (a * b % Pf) = fe a * fe b := by rw [fe_mod, fe_mul]
theorem fe_dblm (x : Nat) : fe (dblm x) = 3 * (fe x * fe x) := by
  unfold dblm; simp only [fe_sub, fe_mod, fe_mul, fe_add]; rfl
theorem fe_dbls (x y : Nat) : fe (dbls x y) = 4 * (fe x * (fe y * fe y)) := by
  unfold dbls; simp only [fe_sub, fe_mod, fe_mul, fe_add]; rfl
theorem fe_dblx (x y : Nat) : fe (dblx x y) = fe (dblm x) * fe (dblm x) - 2 * fe (dbls x y) := by
  unfold dblx; simp only [fe_sub, fe_mod, fe_mul, fe_add]; rfl
theorem fe_dbly (x y : Nat) : fe (dbly x y) = fe (dblm x) * (fe (dbls x y) - fe (dblx x y)) - 8 * (fe y * fe y * (fe y * fe y)) := by
  unfold dbly; simp only [fe_sub, fe_mod, fe_mul, fe_add]; rfl
theorem fe_dblz (y z : Nat) : fe (dblz y z) = 2 * (fe y * fe z) := by
  unfold dblz; simp only [fe_sub, fe_mod, fe_mul, fe_add]; rfl
theorem dJ_law {x y z : Nat} {T : EM.Pt Pf} (h : JN x y z T) : JN (dJ x y z).1 (dJ x y z).2.1 (dJ x y z).2.2 (T.add T) := by
  obtain ⟨hx, hy, hz, hj⟩ := h
  unfold dJ
  split
  · rename_i h0
    have : T = .O := EM.jac_zero Pf_good hj (h0.imp (fe0 hz).2 (fe0 hy).2)
    rw [this]
    exact jn_O 1 1 one_lt one_lt
  · rename_i h0
    exact ⟨fsub_ltP _ _, fsub_ltP _ _, fmod_lt _, EM.jac_dbl Pf_good hj (fun h => h0 (h.imp (fe0 hz).1 (fe0 hy).1)) rfl (fe_dbls x y) (fe_dblm x) (fe_dblx x y) (fe_dbly x y) (fe_dblz y z)⟩
/-- the sum of two weighted points -/
def su (x1 z2 : Nat) : Nat := x1 * (z2 * z2 % Pf) % Pf
def ss (y1 z2 : Nat) : Nat := y1 * (z2 * z2 % Pf * z2 % Pf) % Pf
def sh (x1 z1 x2 z2 : Nat) : Nat := fsub (su x2 z1) (su x1 z2)
def sr (y1 z1 y2 z2 : Nat) : Nat := fsub (ss y2 z1) (ss y1 z2)
/-- from u1, s1, h, r and the product of the z -/
def sx (u h r : Nat) : Nat := fsub (fsub (r * r % Pf) (h * h % Pf * h % Pf)) (2 * (u * (h * h % Pf) % Pf) % Pf)
def sy (u s h r : Nat) : Nat := fsub (r * fsub (u * (h * h % Pf) % Pf) (sx u h r) % Pf) (s * (h * h % Pf * h % Pf) % Pf)
def sz (z1 z2 h : Nat) : Nat := h * (z1 * z2 % Pf) % Pf
def sJ (x1 y1 z1 x2 y2 z2 : Nat) : Tri :=
  if z1 = 0 then (x2, y2, z2) else if z2 = 0 then (x1, y1, z1) else
  if sh x1 z1 x2 z2 = 0 then (if sr y1 z1 y2 z2 = 0 then dJ x1 y1 z1 else (1, 1, 0)) else
  (sx (su x1 z2) (sh x1 z1 x2 z2) (sr y1 z1 y2 z2), sy (su x1 z2) (ss y1 z2) (sh x1 z1 x2 z2) (sr y1 z1 y2 z2), sz z1 z2 (sh x1 z1 x2 z2))
theorem fe_su (x z : Nat) : fe (su x z) = fe x * (fe z * fe z) := by
  unfold su; simp only [fe_sub, fe_mod, fe_mul, fe_add]
theorem fe_ss (x z : Nat) : fe (ss x z) = fe x * (fe z * fe z * fe z) := by
  unfold ss; simp only [fe_sub, fe_mod, fe_mul, fe_add]
theorem fe_sx (u h r : Nat) : fe (sx u h r) = fe r * fe r - fe h * fe h * fe h - 2 * (fe u * (fe h * fe h)) := by
  unfold sx; simp only [fe_sub, fe_mod, fe_mul, fe_add]; rfl
theorem fe_sy (u s h r : Nat) : fe (sy u s h r) = fe r * (fe u * (fe h * fe h) - fe (sx u h r)) - fe s * (fe h * fe h * fe h) := by
  unfold sy; simp only [fe_sub, fe_mod, fe_mul, fe_add]
theorem fe_sz (a b h : Nat) : fe (sz a b h) = fe h * (fe a * fe b) := by
  unfold sz; simp only [fe_sub, fe_mod, fe_mul, fe_add]
theorem sJ_law {x1 y1 z1 x2 y2 z2 : Nat} {P Q : EM.Pt Pf} (h1 : JN x1 y1 z1 P) (h2 : JN x2 y2 z2 Q) : JN (sJ x1 y1 z1 x2 y2 z2).1 (sJ x1 y1 z1 x2 y2 z2).2.1 (sJ x1 y1 z1 x2 y2 z2).2.2 (P.add Q) := by
  have h1' := h1
  obtain ⟨a1, a2, a3, j1⟩ := h1
  obtain ⟨b1, b2, b3, j2⟩ := h2
  unfold sJ
  split
  · rename_i h0
    rw [EM.jac_O j1 ((fe0 a3).2 h0), EM.O_add]
    exact ⟨b1, b2, b3, j2⟩
  · rename_i n1
    split
    · rename_i h0
      rw [EM.jac_O j2 ((fe0 b3).2 h0), EM.add_O]
      exact h1'
    · rename_i n2
      obtain ⟨k1, k2, k3⟩ := EM.jac_h Pf_good j1 j2 (fun h => n1 ((fe0 a3).1 h)) (fun h => n2 ((fe0 b3).1 h)) (fe_su x1 z2) (fe_su x2 z1) (fe_ss y1 z2) (fe_ss y2 z1) (fe_sub (su x2 z1) (su x1 z2)) (fe_sub (ss y2 z1) (ss y1 z2))
      split
      · rename_i hh
        have hh' : fe (fsub (su x2 z1) (su x1 z2)) = 0 := (fe0 (fsub_ltP _ _)).2 hh
        split
        · rename_i hr
          rw [k1 hh' ((fe0 (fsub_ltP _ _)).2 hr)]
          exact dJ_law h1'
        · rename_i hr
          rw [k2 hh' (fun h => hr ((fe0 (fsub_ltP _ _)).1 h))]
          exact jn_O 1 1 one_lt one_lt
      · rename_i hh
        have hh' : fe (fsub (su x2 z1) (su x1 z2)) ≠ 0 := fun h => hh ((fe0 (fsub_ltP _ _)).1 h)
        exact ⟨fsub_ltP _ _, fsub_ltP _ _, fmod_lt _, k3 hh' rfl rfl rfl (fe_sx _ _ _) (fe_sy _ _ _ _) (fe_sz _ _ _)⟩
/-- fractions, in numbers -/
def tw (x : Nat) : Nat := 3 * (x * x % Pf) % Pf
def ts (y z : Nat) : Nat := y * z % Pf
def tb (x y z : Nat) : Nat := x * y % Pf * ts y z % Pf
def th (x y z : Nat) : Nat := fsub (tw x * tw x % Pf) (8 * tb x y z % Pf)
def tys (y z : Nat) : Nat := y * ts y z % Pf
def twx (x y z : Nat) : Nat := 2 * (th x y z * ts y z % Pf) % Pf
def twy (x y z : Nat) : Nat := fsub (tw x * fsub (4 * tb x y z % Pf) (th x y z) % Pf) (8 * (tys y z * tys y z % Pf) % Pf)
def twz (y z : Nat) : Nat := 8 * (ts y z * (ts y z * ts y z % Pf) % Pf) % Pf
theorem fe_tw (x : Nat) : fe (tw x) = 3 * (fe x * fe x) := by
  unfold tw; simp only [fe_sub, fe_mod, fe_mul, fe_add]; rfl
theorem fe_ts (y z : Nat) : fe (ts y z) = fe y * fe z := by
  unfold ts; simp only [fe_sub, fe_mod, fe_mul, fe_add]
theorem fe_tb (x y z : Nat) : fe (tb x y z) = fe x * fe y * fe (ts y z) := by
  unfold tb; simp only [fe_sub, fe_mod, fe_mul, fe_add]
theorem fe_th (x y z : Nat) : fe (th x y z) = fe (tw x) * fe (tw x) - 8 * fe (tb x y z) := by
  unfold th; simp only [fe_sub, fe_mod, fe_mul, fe_add]; rfl
theorem fe_tys (y z : Nat) : fe (tys y z) = fe y * fe (ts y z) := by
  unfold tys; simp only [fe_sub, fe_mod, fe_mul, fe_add]
theorem fe_twx (x y z : Nat) : fe (twx x y z) = 2 * (fe (th x y z) * fe (ts y z)) := by
  unfold twx; simp only [fe_sub, fe_mod, fe_mul, fe_add]; rfl
theorem fe_twy (x y z : Nat) : fe (twy x y z) = fe (tw x) * (4 * fe (tb x y z) - fe (th x y z)) - 8 * (fe (tys y z) * fe (tys y z)) := by
  unfold twy; simp only [fe_sub, fe_mod, fe_mul, fe_add]; rfl
theorem fe_twz (y z : Nat) : fe (twz y z) = 8 * (fe (ts y z) * (fe (ts y z) * fe (ts y z))) := by
  unfold twz; simp only [fe_sub, fe_mod, fe_mul, fe_add]; rfl
theorem tw_law {x y z : Nat} {T : EM.Pt Pf} (h : FN x y z T) : FN (twx x y z) (twy x y z) (twz y z) (T.add T) := by
  obtain ⟨hx, hy, hz, hj⟩ := h
  exact ⟨fmod_lt _, fsub_ltP _ _, fmod_lt _, EM.frc_dbl Pf_good hj (fe_tw x) (fe_ts y z) (fe_tb x y z) (fe_th x y z) (fe_tys y z) (fe_twx x y z) (fe_twy x y z) (fe_twz y z)⟩
def pu (y1 z1 y2 z2 : Nat) : Nat := fsub (y2 * z1 % Pf) (y1 * z2 % Pf)
/-- from u, v, px, py and the product of the z -/
def pa (u v p zz : Nat) : Nat := fsub (fsub (u * u % Pf * zz % Pf) (v * v % Pf * v % Pf)) ((v * v % Pf * p % Pf + v * v % Pf * p % Pf) % Pf)
def pvx (u v p zz : Nat) : Nat := v * pa u v p zz % Pf
def pvy (u v p q zz : Nat) : Nat := fsub (u * fsub (v * v % Pf * p % Pf) (pa u v p zz) % Pf) (v * v % Pf * v % Pf * q % Pf)
def pvz (v zz : Nat) : Nat := v * v % Pf * v % Pf * zz % Pf
def pF (x1 y1 z1 x2 y2 z2 : Nat) : Tri :=
  if z1 = 0 then (x2, y2, z2) else if z2 = 0 then (x1, y1, z1) else
  if pu x1 z1 x2 z2 = 0 then (if pu y1 z1 y2 z2 = 0 then (twx x1 y1 z1, twy x1 y1 z1, twz y1 z1) else (0, 0, 0)) else
  (pvx (pu y1 z1 y2 z2) (pu x1 z1 x2 z2) (x1 * z2 % Pf) (z1 * z2 % Pf), pvy (pu y1 z1 y2 z2) (pu x1 z1 x2 z2) (x1 * z2 % Pf) (y1 * z2 % Pf) (z1 * z2 % Pf), pvz (pu x1 z1 x2 z2) (z1 * z2 % Pf))
theorem fe_pu (y1 z1 y2 z2 : Nat) : fe (pu y1 z1 y2 z2) = fe y2 * fe z1 - fe (y1 * z2 % Pf) := by
  unfold pu; simp only [fe_sub, fe_mod, fe_mul, fe_add]
theorem fe_pa (u v p zz : Nat) : fe (pa u v p zz) = fe u * fe u * fe zz - fe v * fe v * fe v - (fe v * fe v * fe p + fe v * fe v * fe p) := by
  unfold pa; simp only [fe_sub, fe_mod, fe_mul, fe_add]
theorem fe_pvy (u v p q zz : Nat) : fe (pvy u v p q zz) = fe u * (fe v * fe v * fe p - fe (pa u v p zz)) - fe v * fe v * fe v * fe q := by
  unfold pvy; simp only [fe_sub, fe_mod, fe_mul, fe_add]
theorem fe_pvz (v zz : Nat) : fe (pvz v zz) = fe v * fe v * fe v * fe zz := by
  unfold pvz; simp only [fe_sub, fe_mod, fe_mul, fe_add]
theorem pF_law {x1 y1 z1 x2 y2 z2 : Nat} {P Q : EM.Pt Pf} (h1 : FN x1 y1 z1 P) (h2 : FN x2 y2 z2 Q) : FN (pF x1 y1 z1 x2 y2 z2).1 (pF x1 y1 z1 x2 y2 z2).2.1 (pF x1 y1 z1 x2 y2 z2).2.2 (P.add Q) := by
  have h1' := h1
  obtain ⟨a1, a2, a3, j1⟩ := h1
  obtain ⟨b1, b2, b3, j2⟩ := h2
  unfold pF
  split
  · rename_i h0
    rw [EM.frc_O j1 ((fe0 a3).2 h0), EM.O_add]
    exact ⟨b1, b2, b3, j2⟩
  · rename_i n1
    split
    · rename_i h0
      rw [EM.frc_O j2 ((fe0 b3).2 h0), EM.add_O]
      exact h1'
    · rename_i n2
      obtain ⟨k1, k2, k3⟩ := EM.frc_v Pf_good j1 j2 (fun h => n1 ((fe0 a3).1 h)) (fun h => n2 ((fe0 b3).1 h)) (fe_mm x1 z2) (fe_mm y1 z2) (fe_pu y1 z1 y2 z2) (fe_pu x1 z1 x2 z2) (fe_mm z1 z2)
      split
      · rename_i hh
        have hh' : fe (pu x1 z1 x2 z2) = 0 := (fe0 (fsub_ltP _ _)).2 hh
        split
        · rename_i hr
          rw [k1 hh' ((fe0 (fsub_ltP _ _)).2 hr)]
          exact tw_law h1'
        · rename_i hr
          rw [k2 hh' (fun h => hr ((fe0 (fsub_ltP _ _)).1 h))]
          exact fn_O
      · rename_i hh
        have hh' : fe (pu x1 z1 x2 z2) ≠ 0 := fun h => hh ((fe0 (fsub_ltP _ _)).1 h)
        exact ⟨fmod_lt _, fsub_ltP _ _, fmod_lt _, k3 hh' rfl rfl rfl (fe_pa _ _ _ _) (fe_mm _ _) (fe_pvy _ _ _ _ _) (fe_pvz _ _)⟩
/-- a point, weighted by 1 -/
def wx (T : EM.Pt Pf) : Nat := if pz T = true then 1 else px T
def wy (T : EM.Pt Pf) : Nat := if pz T = true then 1 else py T
def wz (T : EM.Pt Pf) : Nat := if pz T = true then 0 else 1
theorem weigh_law {T : EM.Pt Pf} (h : T.on) : JN (wx T) (wy T) (wz T) T := by
  unfold wx wy wz
  cases T with
  | O => exact jn_O 1 1 one_lt one_lt
  | A x y =>
    refine ⟨x.isLt, y.isLt, one_lt, .inr ⟨?_, x, y, rfl, h, ?_, ?_⟩⟩
    · show fe 1 ≠ 0
      rw [fe_one]; exact EM.fone_ne EM.pr_field
    · show fe x.val = x * (fe 1 * fe 1)
      rw [fe_of_val, fe_one]; grind
    · show fe y.val = y * (fe 1 * fe 1 * fe 1)
      rw [fe_of_val, fe_one]; grind
def gz (T : EM.Pt Pf) : Nat := if pz T = true then 0 else 1
theorem frac_law {T : EM.Pt Pf} (h : T.on) : FN (px T) (py T) (gz T) T := by
  unfold gz
  cases T with
  | O => exact fn_O
  | A x y =>
    refine ⟨x.isLt, y.isLt, one_lt, .inr ⟨?_, x, y, rfl, h, ?_, ?_⟩⟩
    · show fe 1 ≠ 0
      rw [fe_one]; exact EM.fone_ne EM.pr_field
    · show fe x.val = x * fe 1
      rw [fe_of_val, fe_one]; grind
    · show fe y.val = y * fe 1
      rw [fe_of_val, fe_one]; grind
theorem fe_pinv (a : Nat) : fe (pinv Pf a) = EM.finv (fe a) := by
  unfold pinv EM.finv
  rw [fe_mod, fe_pow]
theorem plain_law {x y z i i2 i3 a b : Nat} {T : EM.Pt Pf} (h : JN x y z T) (hz : ¬ z = 0) (hi : pinv Pf z = i) (h2 : i * i % Pf = i2) (h3 : i2 * i % Pf = i3) (ha : x * i2 % Pf = a) (hb : y * i3 % Pf = b) : px T = a ∧ py T = b ∧ pz T = false := by
  obtain ⟨a1, a2, a3, j⟩ := h
  have e := EM.jac_plain Pf_good j (fun h => hz ((fe0 a3).1 h)) (i := fe i) (i2 := fe i2) (by rw [← hi, fe_pinv]) (by rw [← h2, fe_mm])
  rw [e]
  refine ⟨?_, ?_, rfl⟩
  · show (fe x * fe i2).val = a
    rw [← fe_mm, ha]; exact Nat.mod_eq_of_lt (ha ▸ fmod_lt _)
  · show (fe y * (fe i2 * fe i)).val = b
    rw [← fe_mm i2 i, h3, ← fe_mm, hb]; exact Nat.mod_eq_of_lt (hb ▸ fmod_lt _)
theorem fplain_law {x y z i a b : Nat} {T : EM.Pt Pf} (h : FN x y z T) (hz : ¬ z = 0) (hi : pinv Pf z = i) (ha : x * i % Pf = a) (hb : y * i % Pf = b) : px T = a ∧ py T = b ∧ pz T = false := by
  obtain ⟨a1, a2, a3, j⟩ := h
  have e := EM.frc_plain Pf_good j (fun h => hz ((fe0 a3).1 h)) (i := fe i) (by rw [← hi, fe_pinv])
  rw [e]
  refine ⟨?_, ?_, rfl⟩
  · show (fe x * fe i).val = a
    rw [← fe_mm, ha]; exact Nat.mod_eq_of_lt (ha ▸ fmod_lt _)
  · show (fe y * fe i).val = b
    rw [← fe_mm, hb]; exact Nat.mod_eq_of_lt (hb ▸ fmod_lt _)
theorem jn_zero {x y z : Nat} {T : EM.Pt Pf} (h : JN x y z T) (hz : z = 0) : T = .O := EM.jac_O h.2.2.2 ((fe0 h.2.2.1).2 hz)
theorem fn_zero {x y z : Nat} {T : EM.Pt Pf} (h : FN x y z T) (hz : z = 0) : T = .O := EM.frc_O h.2.2.2 ((fe0 h.2.2.1).2 hz)
/-- multiples, bit by bit -/
theorem nmul_bit {P : EM.Pt Pf} (hP : P.on) {a k b : Nat} (hk : 1 ≤ k) (hb : a / 2 ^ (k - 1) % 2 = b) : EM.nmul (a / 2 ^ (k - 1)) P = ((EM.nmul (a / 2 ^ k) P).add (EM.nmul (a / 2 ^ k) P)).add (EM.nmul b P) := by
  obtain ⟨i, rfl⟩ : ∃ i, k = i + 1 := ⟨k - 1, by omega⟩
  rw [Nat.add_sub_cancel] at *
  have e : a / 2 ^ i = a / 2 ^ (i + 1) + a / 2 ^ (i + 1) + b := by rw [← hb, Nat.pow_succ, ← Nat.div_div_eq_div_mul]; omega
  rw [e, EM.nmul_add Pf_good _ hP, EM.nmul_add Pf_good _ hP]
theorem swap4 {A B C D : EM.Pt Pf} (a : A.on) (b : B.on) (c : C.on) (d : D.on) : (A.add B).add (C.add D) = (A.add C).add (B.add D) := by
  have G := Pf_good
  rw [EM.assoc G a b (EM.on_add G c d), ← EM.assoc G b c d, EM.add_comm' G b c, EM.assoc G c b d, ← EM.assoc G a c (EM.on_add G b d)]
/-- two multiples, doubled together -/
theorem both_bit {P Q : EM.Pt Pf} (hP : P.on) (hQ : Q.on) {a c k b d : Nat} (hk : 1 ≤ k) (hb : a / 2 ^ (k - 1) % 2 = b) (hd : c / 2 ^ (k - 1) % 2 = d) {T : EM.Pt Pf} (hT : (EM.nmul (a / 2 ^ k) P).add (EM.nmul (c / 2 ^ k) Q) = T) :
    (EM.nmul (a / 2 ^ (k - 1)) P).add (EM.nmul (c / 2 ^ (k - 1)) Q) = (T.add T).add ((EM.nmul b P).add (EM.nmul d Q)) := by
  have G := Pf_good
  have n1 := fun k => EM.on_nmul G k hP
  have n2 := fun k => EM.on_nmul G k hQ
  rw [nmul_bit hP hk hb, nmul_bit hQ hk hd, ← hT, swap4 (EM.on_add G (n1 _) (n1 _)) (n1 _) (EM.on_add G (n2 _) (n2 _)) (n2 _), swap4 (n1 _) (n2 _) (n1 _) (n2 _)]
theorem nmul_one' {P : EM.Pt Pf} : EM.nmul 1 P = P := EM.O_add P
theorem nmul_zero' {P : EM.Pt Pf} : EM.nmul 0 P = .O := rfl
/-- triples -/
theorem tri3 {X Y Z a b c : Nat} (h : ((a, b, c) : Tri) = (X, Y, Z)) : a = X ∧ b = Y ∧ c = Z := by
  simp only [Prod.mk.injEq] at h; exact h
theorem dJ_yes {x y z : Nat} (h : z = 0 ∨ y = 0) : dJ x y z = (1, 1, 0) := if_pos h
theorem dJ_no {x y z : Nat} (h1 : ¬ z = 0) (h2 : ¬ y = 0) : dJ x y z = (dblx x y, dbly x y, dblz y z) := if_neg (fun h => h.elim h1 h2)
theorem dJ_lt (x y z : Nat) : ∃ a b c, dJ x y z = (a, b, c) ∧ a < 2 ^ 256 ∧ b < 2 ^ 256 ∧ c < 2 ^ 256 := by
  by_cases h : z = 0 ∨ y = 0
  · exact ⟨_, _, _, dJ_yes h, by decide, by decide, by decide⟩
  · exact ⟨_, _, _, if_neg h, fsub_lt _ _, fsub_lt _ _, modP_lt _⟩
section
variable {x1 y1 z1 x2 y2 z2 : Nat}
theorem sJ_1 (h : z1 = 0) : sJ x1 y1 z1 x2 y2 z2 = (x2, y2, z2) := if_pos h
theorem sJ_2 (n : ¬ z1 = 0) (h : z2 = 0) : sJ x1 y1 z1 x2 y2 z2 = (x1, y1, z1) := by unfold sJ; rw [if_neg n, if_pos h]
theorem sJ_3 (n : ¬ z1 = 0) (m : ¬ z2 = 0) (h : sh x1 z1 x2 z2 = 0) (r : sr y1 z1 y2 z2 = 0) : sJ x1 y1 z1 x2 y2 z2 = dJ x1 y1 z1 := by unfold sJ; rw [if_neg n, if_neg m, if_pos h, if_pos r]
theorem sJ_4 (n : ¬ z1 = 0) (m : ¬ z2 = 0) (h : sh x1 z1 x2 z2 = 0) (r : ¬ sr y1 z1 y2 z2 = 0) : sJ x1 y1 z1 x2 y2 z2 = (1, 1, 0) := by unfold sJ; rw [if_neg n, if_neg m, if_pos h, if_neg r]
theorem sJ_5 (n : ¬ z1 = 0) (m : ¬ z2 = 0) (h : ¬ sh x1 z1 x2 z2 = 0) : sJ x1 y1 z1 x2 y2 z2 = (sx (su x1 z2) (sh x1 z1 x2 z2) (sr y1 z1 y2 z2), sy (su x1 z2) (ss y1 z2) (sh x1 z1 x2 z2) (sr y1 z1 y2 z2), sz z1 z2 (sh x1 z1 x2 z2)) := by unfold sJ; rw [if_neg n, if_neg m, if_neg h]
theorem sJ_lt (x1 y1 z1 x2 y2 z2 : Nat) (a1 : x1 < 2 ^ 256) (a2 : y1 < 2 ^ 256) (a3 : z1 < 2 ^ 256) (b1 : x2 < 2 ^ 256) (b2 : y2 < 2 ^ 256) (b3 : z2 < 2 ^ 256) : ∃ a b c, sJ x1 y1 z1 x2 y2 z2 = (a, b, c) ∧ a < 2 ^ 256 ∧ b < 2 ^ 256 ∧ c < 2 ^ 256 := by
  by_cases n : z1 = 0
  · exact ⟨_, _, _, sJ_1 n, b1, b2, b3⟩
  by_cases m : z2 = 0
  · exact ⟨_, _, _, sJ_2 n m, a1, a2, a3⟩
  by_cases h : sh x1 z1 x2 z2 = 0
  · by_cases r : sr y1 z1 y2 z2 = 0
    · rw [sJ_3 n m h r]; exact dJ_lt _ _ _
    · exact ⟨_, _, _, sJ_4 n m h r, by decide, by decide, by decide⟩
  · exact ⟨_, _, _, sJ_5 n m h, fsub_lt _ _, fsub_lt _ _, modP_lt _⟩
def tF (x y z : Nat) : Tri := (twx x y z, twy x y z, twz y z)
theorem tF_lt (x y z : Nat) : ∃ a b c, tF x y z = (a, b, c) ∧ a < 2 ^ 256 ∧ b < 2 ^ 256 ∧ c < 2 ^ 256 := ⟨_, _, _, rfl, modP_lt _, fsub_lt _ _, modP_lt _⟩
theorem pF_1 (h : z1 = 0) : pF x1 y1 z1 x2 y2 z2 = (x2, y2, z2) := if_pos h
theorem pF_2 (n : ¬ z1 = 0) (h : z2 = 0) : pF x1 y1 z1 x2 y2 z2 = (x1, y1, z1) := by unfold pF; rw [if_neg n, if_pos h]
theorem pF_3 (n : ¬ z1 = 0) (m : ¬ z2 = 0) (h : pu x1 z1 x2 z2 = 0) (r : pu y1 z1 y2 z2 = 0) : pF x1 y1 z1 x2 y2 z2 = tF x1 y1 z1 := by unfold pF; rw [if_neg n, if_neg m, if_pos h, if_pos r]; rfl
theorem pF_4 (n : ¬ z1 = 0) (m : ¬ z2 = 0) (h : pu x1 z1 x2 z2 = 0) (r : ¬ pu y1 z1 y2 z2 = 0) : pF x1 y1 z1 x2 y2 z2 = (0, 0, 0) := by unfold pF; rw [if_neg n, if_neg m, if_pos h, if_neg r]
theorem pF_5 (n : ¬ z1 = 0) (m : ¬ z2 = 0) (h : ¬ pu x1 z1 x2 z2 = 0) : pF x1 y1 z1 x2 y2 z2 = (pvx (pu y1 z1 y2 z2) (pu x1 z1 x2 z2) (x1 * z2 % Pf) (z1 * z2 % Pf), pvy (pu y1 z1 y2 z2) (pu x1 z1 x2 z2) (x1 * z2 % Pf) (y1 * z2 % Pf) (z1 * z2 % Pf), pvz (pu x1 z1 x2 z2) (z1 * z2 % Pf)) := by
  unfold pF; rw [if_neg n, if_neg m, if_neg h]
theorem pF_lt (x1 y1 z1 x2 y2 z2 : Nat) (a1 : x1 < 2 ^ 256) (a2 : y1 < 2 ^ 256) (a3 : z1 < 2 ^ 256) (b1 : x2 < 2 ^ 256) (b2 : y2 < 2 ^ 256) (b3 : z2 < 2 ^ 256) : ∃ a b c, pF x1 y1 z1 x2 y2 z2 = (a, b, c) ∧ a < 2 ^ 256 ∧ b < 2 ^ 256 ∧ c < 2 ^ 256 := by
  by_cases n : z1 = 0
  · exact ⟨_, _, _, pF_1 n, b1, b2, b3⟩
  by_cases m : z2 = 0
  · exact ⟨_, _, _, pF_2 n m, a1, a2, a3⟩
  by_cases h : pu x1 z1 x2 z2 = 0
  · by_cases r : pu y1 z1 y2 z2 = 0
    · rw [pF_3 n m h r]; exact tF_lt _ _ _
    · exact ⟨_, _, _, pF_4 n m h r, by decide, by decide, by decide⟩
  · exact ⟨_, _, _, pF_5 n m h, modP_lt _, fsub_lt _ _, modP_lt _⟩
theorem dJ_jn {x y z X Y Z : Nat} {T : EM.Pt Pf} (h : JN x y z T) (e : dJ x y z = (X, Y, Z)) : JN X Y Z (T.add T) := by
  have := dJ_law h; rw [e] at this; exact this
theorem sJ_jn {X Y Z : Nat} {P Q : EM.Pt Pf} (h1 : JN x1 y1 z1 P) (h2 : JN x2 y2 z2 Q) (e : sJ x1 y1 z1 x2 y2 z2 = (X, Y, Z)) : JN X Y Z (P.add Q) := by
  have := sJ_law h1 h2; rw [e] at this; exact this
theorem tF_fn {x y z X Y Z : Nat} {T : EM.Pt Pf} (h : FN x y z T) (e : tF x y z = (X, Y, Z)) : FN X Y Z (T.add T) := by
  have := tw_law h
  obtain ⟨rfl, rfl, rfl⟩ := tri3 e
  exact this
theorem pF_fn {X Y Z : Nat} {P Q : EM.Pt Pf} (h1 : FN x1 y1 z1 P) (h2 : FN x2 y2 z2 Q) (e : pF x1 y1 z1 x2 y2 z2 = (X, Y, Z)) : FN X Y Z (P.add Q) := by
  have := pF_law h1 h2; rw [e] at this; exact this
end
theorem weigh_jn {T : EM.Pt Pf} {u v s : Nat} (h : T.on) (hu : wx T = u) (hv : wy T = v) (hs : wz T = s) : JN u v s T := by
  rw [← hu, ← hv, ← hs]; exact weigh_law h
theorem wx_lt (T : EM.Pt Pf) : wx T < 2 ^ 256 := by unfold wx; split; decide; exact px_lt T
theorem wy_lt (T : EM.Pt Pf) : wy T < 2 ^ 256 := by unfold wy; split; decide; exact py_lt T
theorem wz_lt (T : EM.Pt Pf) : wz T < 2 ^ 256 := by unfold wz; split <;> decide
theorem jn_start {P Q : EM.Pt Pf} {a b k : Nat} (ha : a < 2 ^ k) (hb : b < 2 ^ k) : JN 1 1 0 ((EM.nmul (a / 2 ^ k) P).add (EM.nmul (b / 2 ^ k) Q)) := by
  rw [Nat.div_eq_of_lt ha, Nat.div_eq_of_lt hb]; exact jn_O 1 1 one_lt one_lt
theorem fn_start {P : EM.Pt Pf} {a k : Nat} (ha : a < 2 ^ k) : FN 0 0 0 (EM.nmul (a / 2 ^ k) P) := by
  rw [Nat.div_eq_of_lt ha]; exact fn_O
section
variable {P Q : EM.Pt Pf} {a c k X Y Z : Nat} {T : EM.Pt Pf}
theorem bothTT (hP : P.on) (hQ : Q.on) (hk : 1 ≤ k) (hb : a / 2 ^ (k - 1) % 2 = 1) (hd : c / 2 ^ (k - 1) % 2 = 1) (h : JN X Y Z ((((EM.nmul (a / 2 ^ k) P).add (EM.nmul (c / 2 ^ k) Q)).add ((EM.nmul (a / 2 ^ k) P).add (EM.nmul (c / 2 ^ k) Q))).add (P.add Q))) : JN X Y Z ((EM.nmul (a / 2 ^ (k - 1)) P).add (EM.nmul (c / 2 ^ (k - 1)) Q)) := by
  rw [both_bit hP hQ hk hb hd rfl, nmul_one', nmul_one']; exact h
theorem bothTF (hP : P.on) (hQ : Q.on) (hk : 1 ≤ k) (hb : a / 2 ^ (k - 1) % 2 = 1) (hd : ¬ c / 2 ^ (k - 1) % 2 = 1) (h : JN X Y Z ((((EM.nmul (a / 2 ^ k) P).add (EM.nmul (c / 2 ^ k) Q)).add ((EM.nmul (a / 2 ^ k) P).add (EM.nmul (c / 2 ^ k) Q))).add P)) : JN X Y Z ((EM.nmul (a / 2 ^ (k - 1)) P).add (EM.nmul (c / 2 ^ (k - 1)) Q)) := by
  rw [both_bit hP hQ hk hb (show c / 2 ^ (k - 1) % 2 = 0 by omega) rfl, nmul_one', nmul_zero', EM.add_O]; exact h
theorem bothFT (hP : P.on) (hQ : Q.on) (hk : 1 ≤ k) (hb : ¬ a / 2 ^ (k - 1) % 2 = 1) (hd : c / 2 ^ (k - 1) % 2 = 1) (h : JN X Y Z ((((EM.nmul (a / 2 ^ k) P).add (EM.nmul (c / 2 ^ k) Q)).add ((EM.nmul (a / 2 ^ k) P).add (EM.nmul (c / 2 ^ k) Q))).add Q)) : JN X Y Z ((EM.nmul (a / 2 ^ (k - 1)) P).add (EM.nmul (c / 2 ^ (k - 1)) Q)) := by
  rw [both_bit hP hQ hk (show a / 2 ^ (k - 1) % 2 = 0 by omega) hd rfl, nmul_one', nmul_zero', EM.O_add]; exact h
theorem bothFF (hP : P.on) (hQ : Q.on) (hk : 1 ≤ k) (hb : ¬ a / 2 ^ (k - 1) % 2 = 1) (hd : ¬ c / 2 ^ (k - 1) % 2 = 1) (h : JN X Y Z (((EM.nmul (a / 2 ^ k) P).add (EM.nmul (c / 2 ^ k) Q)).add ((EM.nmul (a / 2 ^ k) P).add (EM.nmul (c / 2 ^ k) Q)))) : JN X Y Z ((EM.nmul (a / 2 ^ (k - 1)) P).add (EM.nmul (c / 2 ^ (k - 1)) Q)) := by
  rw [both_bit hP hQ hk (show a / 2 ^ (k - 1) % 2 = 0 by omega) (show c / 2 ^ (k - 1) % 2 = 0 by omega) rfl, nmul_zero', nmul_zero', EM.O_add, EM.add_O]; exact h
theorem oneT (hP : P.on) (hk : 1 ≤ k) (hb : a / 2 ^ (k - 1) % 2 = 1) (h : FN X Y Z (((EM.nmul (a / 2 ^ k) P).add (EM.nmul (a / 2 ^ k) P)).add P)) : FN X Y Z (EM.nmul (a / 2 ^ (k - 1)) P) := by
  rw [nmul_bit hP hk hb, nmul_one']; exact h
theorem oneF (hP : P.on) (hk : 1 ≤ k) (hb : ¬ a / 2 ^ (k - 1) % 2 = 1) (h : FN X Y Z ((EM.nmul (a / 2 ^ k) P).add (EM.nmul (a / 2 ^ k) P))) : FN X Y Z (EM.nmul (a / 2 ^ (k - 1)) P) := by
  rw [nmul_bit hP hk (show a / 2 ^ (k - 1) % 2 = 0 by omega), nmul_zero', EM.add_O]; exact h
end
/- the reference's sum by slopes -/
section
variable {P Q : EM.Pt Pf}
theorem rsum_O (hp : pz P = false) (hq : pz Q = false) (hx : px P = px Q) (hy : ¬ py P = py Q ∨ py P = 0) : P.add Q = .O := by
  rw [pz_A hp, pz_A hq]
  refine if_pos ⟨by rw [hx], ?_⟩
  rcases hy with hy | hy
  · exact .inl fun h => hy (fe_inj (py_ltP _) (py_ltP _) h)
  · exact .inr (by rw [hy]; rfl)
theorem rsum_A (hp : pz P = false) (hq : pz Q = false) (hn : ¬ (px P = px Q ∧ (¬ py P = py Q ∨ py P = 0))) {s q d x e m y : Nat} (hs : fe s = EM.slope (fe (px P)) (fe (py P)) (fe (px Q)) (fe (py Q))) (h1 : s * s % Pf = q) (h2 : fsub q (px P) = d) (h3 : fsub d (px Q) = x)
    (h4 : fsub (px P) x = e) (h5 : s * e % Pf = m) (h6 : fsub m (py P) = y) : px (P.add Q) = x ∧ py (P.add Q) = y ∧ pz (P.add Q) = false := by
  have hc : ¬ (fe (px P) = fe (px Q) ∧ (fe (py P) ≠ fe (py Q) ∨ fe (py P) = 0)) := by
    rintro ⟨a, b⟩
    refine hn ⟨fe_inj (px_ltP _) (px_ltP _) a, ?_⟩
    rcases b with b | b
    · exact .inl fun h => b (by rw [h])
    · exact .inr ((fe0 (py_ltP _)).1 b)
  have e1 : P.add Q = .A (fe x) (fe y) := by
    have ex : fe x = fe s * fe s - fe (px P) - fe (px Q) := by rw [← h3, ← h2, ← h1, fe_sub, fe_sub, fe_mod, fe_mul]
    have ey : fe y = fe s * (fe (px P) - fe x) - fe (py P) := by rw [← h6, ← h5, ← h4, fe_sub, fe_mod, fe_mul, fe_sub]
    rw [ey, ex, hs]
    conv => lhs; rw [pz_A hp, pz_A hq]
    exact if_neg hc
  rw [e1]
  exact ⟨px_A (h3 ▸ fsub_ltP _ _), py_A (h6 ▸ fsub_ltP _ _), rfl⟩
theorem slope_D {r1 r2 r3 i s : Nat} (hx : px P = px Q) (h1 : px P * px P % Pf = r1) (h2 : 3 * r1 % Pf = r2) (h3 : (py P + py P) % Pf = r3) (h4 : pinv Pf r3 = i) (h5 : r2 * i % Pf = s) : fe s = EM.slope (fe (px P)) (fe (py P)) (fe (px Q)) (fe (py Q)) := by
  unfold EM.slope
  rw [if_pos (by rw [hx]), ← h5, ← h4, ← h3, ← h2, ← h1, fe_mod, fe_mul, fe_mod, fe_mul, fe_mod, fe_mul, fe_pinv, fe_mod, fe_add]
  rfl
theorem slope_S {u v i s : Nat} (hx : ¬ px P = px Q) (h1 : fsub (py Q) (py P) = u) (h2 : fsub (px Q) (px P) = v) (h4 : pinv Pf v = i) (h5 : u * i % Pf = s) : fe s = EM.slope (fe (px P)) (fe (py P)) (fe (px Q)) (fe (py Q)) := by
  unfold EM.slope
  rw [if_neg (fun h => hx (fe_inj (px_ltP _) (px_ltP _) h)), ← h5, ← h4, ← h2, ← h1, fe_mod, fe_mul, fe_pinv, fe_sub, fe_sub]
end
/-- the point of an X -/
def liftP (a : Nat) : EM.Pt Pf := if a < Pf ∧ frB (rgt a) = true then .A (fe a) (fe (frV (rgt a))) else .O
theorem lift_on (a : Nat) : (liftP a).on := by
  unfold liftP
  split
  · rename_i h
    have := frV_mul h.2
    show fe _ * fe _ = _
    rw [← fe_mul, ← fe_rgt]
    exact fe_eq.2 (by rw [this])
  · trivial
theorem liftP_yes {a : Nat} (h1 : a < Pf) (h2 : frB (rgt a) = true) : px (liftP a) = a ∧ py (liftP a) = frV (rgt a) ∧ pz (liftP a) = false := by
  unfold liftP
  rw [if_pos ⟨h1, h2⟩]
  exact ⟨px_A h1, py_A (frV_ltP _), rfl⟩
theorem liftP_no {a : Nat} (h : ¬ a < Pf ∨ ¬ frB (rgt a) = true) : liftP a = .O := if_neg fun hh => h.elim (fun k => k hh.1) (fun k => k hh.2)
def evB (T : EM.Pt Pf) : Bool := !pz T && decide (py T % 2 = 0)
def Gp : EM.Pt Pf := .A (fe 55066263022277343669578718895168534326250603453777594175500187360389116729240) (fe 32670510020758816978083085130507043184471273380659243275938904335757337482424)
theorem Gp_lift : liftP 55066263022277343669578718895168534326250603453777594175500187360389116729240 = Gp := by
  have hr : rgt 55066263022277343669578718895168534326250603453777594175500187360389116729240 = 32748224938747404814623910738487752935528512903530129802856995983256684603122 := by decide +kernel
  have h : frt 32748224938747404814623910738487752935528512903530129802856995983256684603122 = 32670510020758816978083085130507043184471273380659243275938904335757337482424 := frt_val (by decide +kernel)
  have hb : frB (rgt 55066263022277343669578718895168534326250603453777594175500187360389116729240) = true := by
    rw [hr]; unfold frB; rw [h]; decide +kernel
  have hv : frV (rgt 55066263022277343669578718895168534326250603453777594175500187360389116729240) = 32670510020758816978083085130507043184471273380659243275938904335757337482424 := by
    rw [hr]; unfold frV; rw [h]; decide +kernel
  unfold liftP
  rw [if_pos ⟨by decide, hb⟩, hv]
  rfl
theorem Gp_on : Gp.on := by
  have h : ∀ a, liftP a = Gp → Gp.on := fun a h => h ▸ lift_on a
  exact h _ Gp_lift
section
variable {P Q : EM.Pt Pf}
theorem O_on : (EM.Pt.O : EM.Pt Pf).on := trivial
theorem mkNeg (h : P.on) : ∃ z, EM.Pt.neg P = z ∧ z.on := ⟨_, rfl, EM.on_neg h⟩
theorem mkAdd (h : P.on) (k : Q.on) : ∃ z, EM.Pt.add P Q = z ∧ z.on := ⟨_, rfl, EM.on_add Pf_good h k⟩
theorem mkMul (k : Nat) (h : P.on) : ∃ z, EM.nmul k P = z ∧ z.on := ⟨_, rfl, EM.on_nmul Pf_good k h⟩
theorem mkBoth (k l : Nat) (h : P.on) (j : Q.on) : ∃ z, EM.Pt.add (EM.nmul k P) (EM.nmul l Q) = z ∧ z.on := ⟨_, rfl, EM.on_add Pf_good (EM.on_nmul Pf_good k h) (EM.on_nmul Pf_good l j)⟩
theorem mkLift (a : Nat) : ∃ z, liftP a = z ∧ z.on := ⟨_, rfl, lift_on a⟩
end
end Go.Proofs.Ytmpejkhffbonnaa
