/- The order of the base: so many times each point is nothing. Plain law, no program here. -/
import Derived.Test.YtmpejkhffbonnaaPtP
import Derived.Test.YtmpejkhffbonnaaScalP
namespace Go.Proofs.Ytmpejkhffbonnaa
def forceN {α : Type} (n : Nat) (f : Nat → α) : α := match n with
  | 0 => f 0
  | m + 1 => f (m + 1)
theorem forceN_eq {α : Type} (n : Nat) (f : Nat → α) : forceN n f = f n := by cases n <;> rfl
def stepJ (b : Bool) (t : Tri) : Tri :=
  forceN t.1 fun x => forceN t.2.1 fun y => forceN t.2.2 fun z =>
    match dJ x y z with
    | (X, Y, Z) => forceN X fun X => forceN Y fun Y => forceN Z fun Z => bif b then sJ X Y Z 55066263022277343669578718895168534326250603453777594175500187360389116729240 32670510020758816978083085130507043184471273380659243275938904335757337482424 1 else (X, Y, Z)
def bitsJ (k : Nat) : Nat → Tri → Tri
  | 0, t => t
  | i + 1, t => bitsJ k i (stepJ (Nat.beq (k / 2 ^ i % 2) 1) t)
theorem Gp_jn : JN 55066263022277343669578718895168534326250603453777594175500187360389116729240 32670510020758816978083085130507043184471273380659243275938904335757337482424 1 Gp := by
  have h := weigh_law Gp_on
  exact h
theorem stepJ_law {b : Bool} {t : Tri} {T : EM.Pt Pf} (h : JN t.1 t.2.1 t.2.2 T) : JN (stepJ b t).1 (stepJ b t).2.1 (stepJ b t).2.2 ((T.add T).add (EM.nmul (bif b then 1 else 0) Gp)) := by
  obtain ⟨x, y, z⟩ := t
  have e : stepJ b (x, y, z) = bif b then sJ (dJ x y z).1 (dJ x y z).2.1 (dJ x y z).2.2 55066263022277343669578718895168534326250603453777594175500187360389116729240 32670510020758816978083085130507043184471273380659243275938904335757337482424 1 else dJ x y z := by
    unfold stepJ
    simp only [forceN_eq]
  rw [e]
  have h1 := dJ_law h
  cases b with
  | true =>
    simp only [cond_true]
    rw [nmul_one']
    exact sJ_law h1 Gp_jn
  | false =>
    simp only [cond_false]
    rw [nmul_zero', EM.add_O]
    exact h1
theorem bitsJ_law (k : Nat) : ∀ (i : Nat) (t : Tri), JN t.1 t.2.1 t.2.2 (EM.nmul (k / 2 ^ i) Gp) → JN (bitsJ k i t).1 (bitsJ k i t).2.1 (bitsJ k i t).2.2 (EM.nmul k Gp)
  | 0, t, h => by rw [Nat.pow_zero, Nat.div_one] at h; exact h
  | i + 1, t, h => by
    refine bitsJ_law k i _ ?_
    have h1 := stepJ_law (b := Nat.beq (k / 2 ^ i % 2) 1) h
    have e : (bif Nat.beq (k / 2 ^ i % 2) 1 then 1 else 0) = k / 2 ^ i % 2 := by
      cases hb : Nat.beq (k / 2 ^ i % 2) 1
      · have : k / 2 ^ i % 2 ≠ 1 := fun hh => by rw [hh] at hb; cases hb
        simp only [cond_false]
        generalize k / 2 ^ i = x at *
        omega
      · simp only [cond_true]; exact (Nat.eq_of_beq_eq_true hb).symm
    rw [e] at h1
    have := nmul_bit Gp_on (a := k) (k := i + 1) (by omega) rfl
    rw [Nat.add_sub_cancel] at this
    rw [this]
    exact h1
theorem Nord_Gp : EM.nmul Nord Gp = .O := by
  have h := bitsJ_law Nord 256 (1, 1, 0) (by rw [Nat.div_eq_of_lt (by decide)]; exact jn_O 1 1 one_lt one_lt)
  exact jn_zero h (by decide +kernel)
theorem Nord_pr : EM.Pr Nord := EM.pr_order
theorem order_all {P : EM.Pt Pf} (h : P.on) : EM.nmul Nord P = .O :=
  EM.order Pf_good Nord_pr Gp_on (by intro h; cases h) Nord_Gp (by decide) h
theorem nmul_mod {P : EM.Pt Pf} (h : P.on) (k : Nat) : EM.nmul (k % Nord) P = EM.nmul k P := by
  have e : EM.nmul k P = EM.nmul (Nord * (k / Nord) + k % Nord) P := by rw [Nat.div_add_mod]
  rw [e, EM.nmul_add Pf_good _ h, EM.nmul_mul Pf_good _ h, order_all h, EM.nmul_O Pf_good, EM.O_add]
theorem Gp_even : evB Gp = true := by decide +kernel
theorem pt_eq {T U : EM.Pt Pf} (h : T = U) : px T = px U ∧ py T = py U ∧ pz T = pz U := by rw [h]; exact ⟨rfl, rfl, rfl⟩
theorem pt_ne {T U : EM.Pt Pf} (h : T ≠ U) : ¬ (px T = px U ∧ py T = py U ∧ pz T = pz U) := fun hh => h (pt_inj hh.1 hh.2.1 hh.2.2)
theorem pt_eqO {T : EM.Pt Pf} (h : T = .O) : px T = 0 ∧ py T = 0 ∧ pz T = true := by rw [h]; exact ⟨rfl, rfl, rfl⟩
theorem raw_eq {x y : Nat} {z : Bool} {T : EM.Pt Pf} (h : onB x y z = true) (hT : T = ptOf x y z) : px T = x ∧ py T = y ∧ pz T = z := by rw [hT]; exact on_yes h
theorem raw_iff {x y : Nat} {z : Bool} {T : EM.Pt Pf} (h : onB x y z = true) : (px T = x ∧ py T = y ∧ pz T = z) ↔ T = ptOf x y z := by
  refine ⟨fun hh => ?_, raw_eq h⟩
  obtain ⟨a, b, c⟩ := on_yes h
  exact pt_inj (hh.1.trans a.symm) (hh.2.1.trans b.symm) (hh.2.2.trans c.symm)
theorem frac_one {T : EM.Pt Pf} (h : T.on) (hz : pz T = false) : FN (px T) (py T) 1 T := by
  have := frac_law h
  unfold gz at this
  rw [if_neg (by rw [hz]; decide)] at this
  exact this
theorem frac_zero {T : EM.Pt Pf} (hz : pz T = true) : FN 0 0 0 T := by rw [pz_O hz]; exact fn_O
/-- one of a point and its negative has an even Y -/
theorem ev_neg {T : EM.Pt Pf} (h : T.on) (hz : pz T = false) : evB T.neg = !evB T := by
  obtain ⟨_, e2, e3⟩ := neg_A hz
  have hy : py T ≠ 0 := by
    intro h0
    have hA := pz_A hz
    rw [hA] at h
    refine EM.y_ne Pf_good h ?_
    rw [h0]; rfl
  have e : fsub 0 (py T) = Pf - py T := fneg_val (py_ltP T) hy
  have hp : Pf % 2 = 1 := by decide
  have hl := py_ltP T
  unfold evB
  rw [e2, e3, hz, e]
  simp only [Bool.not_false, Bool.true_and]
  by_cases h0 : py T % 2 = 0
  · rw [decide_eq_true h0, decide_eq_false (by omega)]; rfl
  · rw [decide_eq_false h0, decide_eq_true (by omega)]; rfl
/-- a point with an even Y is lifted from its X; its negative otherwise -/
theorem lift_back {T : EM.Pt Pf} (h : T.on) (hz : pz T = false) : liftP (px T) = if evB T = true then T else T.neg := by
  have h1 := on_aff h hz
  have hb : frB (rgt (px T)) = true := by rw [← h1]; exact frB_sq _
  obtain ⟨a, b, c⟩ := liftP_yes (px_ltP T) hb
  have hv := frV_sq (py T)
  rw [h1, Nat.mod_eq_of_lt (py_ltP T)] at hv
  have he := frV_even2 (rgt (px T))
  obtain ⟨n1, n2, n3⟩ := neg_A hz
  have hn := ev_neg h hz
  by_cases ht : evB T = true
  · rw [if_pos ht]
    refine pt_inj a ?_ (c.trans hz.symm)
    rw [b]
    rcases hv with hv | hv
    · exact hv
    · exfalso
      rw [ht] at hn
      unfold evB at hn
      rw [n2, n3, ← hv, he] at hn
      simp at hn
  · rw [if_neg ht]
    refine pt_inj (a.trans n1.symm) ?_ (c.trans n3.symm)
    rw [b, n2]
    rcases hv with hv | hv
    · exfalso
      apply ht
      unfold evB
      rw [hz, ← hv, he]; rfl
    · exact hv
theorem neg_ne {T : EM.Pt Pf} (h : T.on) (hz : pz T = false) : T.neg ≠ T := by
  intro e
  have := ev_neg h hz
  rw [e] at this
  cases hb : evB T <;> rw [hb] at this <;> cases this
theorem lift_ev {a : Nat} (hz : pz (liftP a) = false) : evB (liftP a) = true ∧ px (liftP a) = a := by
  have hl : a < Pf ∧ frB (rgt a) = true := by
    by_cases h : a < Pf ∧ frB (rgt a) = true
    · exact h
    · have : liftP a = .O := if_neg h
      rw [this] at hz; cases hz
  obtain ⟨h1, h2, h3⟩ := liftP_yes hl.1 hl.2
  refine ⟨?_, h1⟩
  unfold evB
  rw [h2, h3, frV_even2]; rfl
end Go.Proofs.Ytmpejkhffbonnaa
