/- Several texts in one, what this law needs of them: StkO, NumC, ShaP, StkP, Bytes, Sha1, Sha2, StkA. -/
import Derived.Test.YtikkhkjndbicgaaTD1

/- Stacks: rows of byte strings of one's own, shortened, widened, spread; calls that look at anything. -/
namespace Go.Proofs.Ytikkhkjndbicgaa
open Go.RowKit
def Fz.owning : Fz → Bool
  | .own _ _ _ _ _ => true
  | .bysO _ _ _ => true
  | .wrs _ _ _ => true
  | .cel _ _ _ => false
  | .bys _ _ => false
theorem Fz.ok_any {w : World} {Z Z' B : Nat → Prop} {e : Fz} (h : e.ok w Z B) (ho : e.owning = true) (hz : ∀ g, e.owns g → B g → Z' g) : e.ok w Z' B := by
  cases e with
  | cel _ _ _ => cases ho
  | bys _ _ => cases ho
  | own v E size n xs => exact ⟨h.1, fun g hg => ⟨hz g hg (h.2 g hg).2, (h.2 g hg).2⟩⟩
  | bysO G vs ls => exact ⟨h.1, fun g hg => ⟨(h.2 g hg).1, hz g hg (h.2 g hg).1, (h.2 g hg).2.2⟩⟩
  | wrs G vs ns => exact ⟨h.1, fun g hg => ⟨(h.2 g hg).1, hz g hg (h.2 g hg).1, (h.2 g hg).2.2⟩⟩
def owningL : List Fz → Bool
  | [] => true
  | e :: l => e.owning && owningL l
theorem owningL_get : ∀ {l : List Fz}, owningL l = true → ∀ (i : Nat) (e : Fz), l[i]? = some e → e.owning = true
  | [], _, i, e, h => by simp at h
  | x :: l, h, i, e, he => by
    simp only [owningL, Bool.and_eq_true] at h
    cases i with
    | zero =>
      obtain rfl : x = e := by simpa using he
      exact h.1
    | succ i => exact owningL_get h.2 i e (by simpa using he)
theorem OkL.any {w : World} {Z Z' B : Nat → Prop} {L : List Fz} (h : OkL w Z B L) (ho : owningL L = true) : OkL w Z' B L := fun i e he =>
  Fz.ok_any (h i e he) (owningL_get ho i e he) fun _ hg hb => ⟨.inr hb, (Fz.ok_lt (h i e he) hg).2.1.2⟩
theorem bysv_iff {w : World} {Z : Nat → Prop} {vs : List Value} {ls : List (List UInt8)} : BysV w Z vs ls ↔ vs.length = ls.length ∧ ∀ p ∈ vs.zip ls, ByV w Z p.1 p.2 := by
  constructor
  · rintro ⟨h1, h2⟩
    refine ⟨h1, fun p hp => ?_⟩
    obtain ⟨i, hi⟩ := List.mem_iff_getElem?.1 hp
    rw [List.getElem?_zip_eq_some] at hi
    exact h2 i p.1 p.2 hi.1 hi.2
  · rintro ⟨h1, h2⟩
    refine ⟨h1, fun i v l hv hl => h2 (v, l) ?_⟩
    exact List.mem_iff_getElem?.2 ⟨i, List.getElem?_zip_eq_some.2 ⟨hv, hl⟩⟩
section
variable {P : Program} {Q : Exit → Act → World → Prop} {K : Act → World → Prop} {a : Act} {w : World} {o : Oper} {n : Nat} {w0 : Bs} {fs : List Sl} {bs : List Bl}
theorem op_callV {F : FuncId} {ρ : Type} (hs : St n w0 fs bs a w) (m ms : Option Nat) {f : Operand} {xs : Array Operand} {ts : Array TypeId} {vs : List Value} {v : ρ → Value} {E : ρ → List Fz} {j : Nat} {d : Nat} (ho : o.op = .call ⟨.value f, xs, ts⟩) (hd : o.dst = some d)
    (hf : ev fs f = some (.func (.func F) #[] #[])) (hx : evs fs xs.toList = some vs) (hcl : ∀ w, (callFunc F vs.toArray).run P w = .ok (.enter F vs.toArray) w)
    (hc : St n w0 fs bs a w → Calls P F vs.toArray w (Ret w (fun _ => True) v E)) (hE : ∀ r, (E r).length = j) (hO : ∀ r, owningL (E r) = true) (hokS : okS ms w0.S j = true) (hok : okf m fs d n = true)
    (h : ∀ r a' w', St n (w0.withS (putS ms w0.S (E r))) (putf m fs d (v r)) bs a' w' → K a' w') : o.wp P a w K Q :=
  op_callS hs m ms ho hd hf hx hcl (fun hs => (hc hs).mono fun e w' => by
    rintro ⟨r, h1, h2, h3⟩
    exact ⟨r, h1, h2, OkL.any h3 (hO r)⟩) hE hokS hok h
theorem op_sliceV (hs : St n w0 fs bs a w) (m : Option Nat) (k i h : Nat) {T E : TypeId} {x : Operand} {lo hi : Option Operand} {ad : Option Addr} {z N c : Nat} {cs : List Value} {v' : Value} {d : Nat} (ho : o.op = .slice T x lo hi none) (hd : o.dst = some d) (hx : ev fs x = some (.slice ad N c))
    (hk : rowAt w0.S k = some (.slice ad N c, N, cs)) (hlo : lo = none ∧ i = 0 ∨ ∃ y κ, lo = some y ∧ ev fs y = some (.int κ (i : Int))) (hhi : hi = none ∧ h = N ∨ ∃ y κ, hi = some y ∧ ev fs y = some (.int κ (h : Int)))
    (hu : P.underlying T = some (.slice E)) (hz : ∀ w, (sizeOf E).run P w = .ok z w) (h1 : i ≤ h) (h2 : h ≤ N) (hv : vsl (.slice ad N c) z i h = v') (hok : okf m fs d n = true)
    (hK : ∀ a', St n w0 (putf m fs d v') bs a' w → K a' w) : o.wp P a w K Q := by
  subst hv
  obtain ⟨ad', c', e, hN, _⟩ := hs.row hk
  obtain ⟨rfl, rfl⟩ : ad = ad' ∧ c = c' := by simpa using e
  have hrun := run_sliceC (P := P) (T := T) (E := E) (ad := ad) (N := N) (c := c) (z := z) (i := i) (h := h) (lo := lo.map a.eval) (hi := hi.map a.eval) hu hz
    (by rcases hlo with ⟨rfl, rfl⟩ | ⟨y, κ, rfl, hy⟩
        · exact .inl ⟨rfl, rfl⟩
        · exact .inr ⟨κ, by simp [hs.ev hy]⟩)
    (by rcases hhi with ⟨rfl, rfl⟩ | ⟨y, κ, rfl, hy⟩
        · exact .inl ⟨rfl, rfl⟩
        · exact .inr ⟨κ, by simp [hs.ev hy]⟩) h1 h2 hN w
  refine op_val hs m hd hok ?_ hK
  unfold execOp
  rw [ho]
  simp only [hs.ev hx, Option.map_none] at hrun ⊢
  simp [hrun, Sem.run_bind, Result.andThen]
theorem vsl_hi {ad : Option Addr} {N c z h : Nat} : vsl (.slice ad N c) z 0 h = .slice ad h c := by
  simp only [vsl, Nat.zero_mul, Nat.sub_zero]
  split
  · rfl
  · cases ad <;> simp [Addr.add]
theorem vsl_lo {ad : Option Addr} {N c z i : Nat} : vsl (.slice ad N c) z i N = .slice (vsa ad c z i) (N - i) (c - i) := rfl
theorem St.ownLen (hs : St n w0 fs bs a w) (k : Nat) {v : Value} {E : TypeId} {N : Nat} {xs : List Value} (h : w0.S[k]? = some (true, .own v E 1 N xs)) : xs.length = N := by
  have := (hs.fz k _ h rfl).1.1
  omega
theorem ownsRow_hi {w : World} {base : Nat} {E : TypeId} {size N c h : Nat} {ad : Option Addr} {xs : List Value} (ho : w.ownsRow base E size (.slice ad N c) N xs) (hh : h ≤ N) : w.ownsRow base E size (.slice ad h c) h (xs.take (h * size)) := by
  obtain ⟨h1, h2⟩ := ho
  have hle : h * size ≤ N * size := Nat.mul_le_mul_right _ hh
  refine ⟨by rw [List.length_take]; omega, ?_⟩
  rcases h2 with ⟨e, rfl⟩ | ⟨g, cap, cur, e, b1, b2, b3, b4, b5, b6⟩
  · left
    obtain rfl : h = 0 := by omega
    obtain ⟨rfl, _, rfl⟩ : ad = none ∧ 0 = 0 ∧ c = 0 := by simpa using e
    exact ⟨rfl, rfl⟩
  · right
    obtain ⟨rfl, _, rfl⟩ : ad = some ⟨g, 0, none⟩ ∧ N = N ∧ c = cap := by simpa using e
    refine ⟨g, c, cur, rfl, b1, b2, by omega, b4, b5, ?_⟩
    rw [← b6, List.take_take, Nat.min_eq_left hle]
theorem St.truncO (hs : St n w0 fs bs a w) (k h : Nat) {ad : Option Addr} {N c : Nat} {E : TypeId} {xs xs' : List Value} (hk : w0.S[k]? = some (true, .own (.slice ad N c) E 1 N xs)) (hh : h ≤ N) (hx : xs.take h = xs') : St n (w0.withS (w0.S.set k (true, .own (.slice ad h c) E 1 h xs'))) fs bs a w := by
  subst hx
  refine hs.conS k hk (fun Z hz => ⟨by have := ownsRow_hi hz.1 hh; rwa [Nat.mul_one] at this, fun g hg => ?_⟩) (fun g hg => ?_)
  · exact hz.2 g (by
      cases ad with
      | none => cases hg
      | some p => exact hg)
  · cases ad with
    | none => cases hg
    | some p => exact hg
theorem op_eraseO (hs : St n w0 fs bs a w) (m : Option Nat) (k i : Nat) {x y : Operand} {T E : TypeId} {z : Value} {bytes N c N' : Nat} {ad : Option Addr} {xs xs' : List Value} {d : Nat} (hF : w0.F = [])
    (ho : o.op = .call ⟨.builtin .append, #[x, y], #[T, T]⟩) (hd : o.dst = some d) (hx : ev fs x = some (.slice ad i c)) (hy : ev fs y = some (.slice (vsa ad c 1 (i + 1)) (N - (i + 1)) (c - (i + 1)))) (hk : w0.S[k]? = some (true, .own (.slice ad N c) E 1 N xs))
    (hu : P.underlying T = some (.slice E)) (hi : Inf P E z 1 bytes) (hzs : z.cells.size = 1) (h1 : ∀ u ∈ xs, u.oneCell' = true) (hby : bytes ≤ 64) (hl : N ≤ 1000000) (hiN : i < N) (hN' : N - 1 = N') (hxs : xs.eraseIdx i = xs') (hok : okf m fs d n = true)
    (h : ∀ a' c' act w', St n (w0.withS (w0.S.set k (true, .own (.slice a' N' c') E 1 N' xs'))) (putf m fs d (.slice a' N' c')) bs act w' → K act w') : o.wp P a w K Q := by
  subst hN'; subst hxs
  have hcel : CelV w (fun _ => True) (.slice ad N c) N xs := own_cel (hs.fz k _ hk rfl).1 fun _ _ => trivial
  have hlen : xs.length = N := hs.ownLen k hk
  have hpart := celv_part 1 (i + 1) N hcel (by omega) (Nat.le_refl _)
  rw [vsl_lo] at hpart
  have hnews := celv_news hpart
  have hs1 := hs.truncO k i hk (by omega) rfl
  have hk1 : (w0.S.set k (true, .own (.slice ad i c) E 1 i (xs.take i)))[k]? = some (true, .own (.slice ad i c) E 1 i (xs.take i)) := by
    rw [List.getElem?_set]; simp [(List.getElem?_eq_some_iff.1 hk).1]
  refine app_core (w0 := w0.withS (w0.S.set k (true, .own (.slice ad i c) E 1 i (xs.take i)))) hs1 m k hF ho hd hx hy hk1 hnews hu hi hzs (by decide) ?_ ?_ hby (by omega) hok ?_
  · simp; omega
  · intro u hu'
    exact h1 u (List.mem_of_mem_drop (List.mem_of_mem_take hu'))
  · intro a' c' act w' hst
    refine h a' c' act w' ?_
    have e1 : i + (N - (i + 1)) = N - 1 := by omega
    have e2 : xs.take i ++ ((xs.drop ((i + 1) * 1)).take ((N - (i + 1)) * 1)) = xs.eraseIdx i := by
      rw [List.eraseIdx_eq_take_drop_succ, Nat.mul_one, Nat.mul_one, List.take_of_length_le (i := N - (i + 1)) (by rw [List.length_drop]; omega)]
    simp only [Bs.withS] at hst
    rw [List.set_set, e1, e2] at hst
    exact hst
theorem op_appV (hs : St n w0 fs bs a w) (m : Option Nat) (k : Nat) {x y : Operand} {T E : TypeId} {z v : Value} {size bytes N M c N' : Nat} {ad : Option Addr} {xs cs ys : List Value} {d : Nat} (hF : w0.F = [])
    (ho : o.op = .call ⟨.builtin .append, #[x, y], #[T, T]⟩) (hd : o.dst = some d) (hx : ev fs x = some v) (hy : ev fs y = some (.slice ad M c)) (hk : w0.S[k]? = some (true, .own v E size N xs)) (hv : St n w0 fs bs a w → CelV w (fun _ => True) (.slice ad M c) M cs)
    (hu : P.underlying T = some (.slice E)) (hi : Inf P E z size bytes) (hzs : z.cells.size = size) (hs0 : 0 < size) (hcl : cs.length = M * size) (h1 : ∀ u ∈ cs, u.oneCell' = true) (hby : bytes ≤ 64) (hl : N + M ≤ 1000000) (hN : N + M = N') (hys : xs ++ cs = ys) (hok : okf m fs d n = true)
    (h : ∀ a' c' act w', St n (w0.withS (w0.S.set k (true, .own (.slice a' N' c') E size N' ys))) (putf m fs d (.slice a' N' c')) bs act w' → K act w') : o.wp P a w K Q := by
  subst hN; subst hys
  exact app_core hs m k hF ho hd hx hy hk (celv_news (hv hs)) hu hi hzs hs0 hcl h1 hby hl hok h
theorem St.partO (hs : St n w0 fs bs a w) (k i : Nat) {ad : Option Addr} {N c : Nat} {E : TypeId} {xs : List Value} (hk : w0.S[k]? = some (true, .own (.slice ad N c) E 1 N xs)) (hi : i ≤ N) : CelV w (fun _ => True) (.slice (vsa ad c 1 i) (N - i) (c - i)) (N - i) (xs.drop i) := by
  have h := celv_part 1 i N (own_cel (hs.fz k _ hk rfl).1 fun _ _ => trivial : CelV w (fun _ => True) _ _ _) hi (Nat.le_refl _)
  rw [vsl_lo, Nat.mul_one, Nat.mul_one, List.take_of_length_le (by have := hs.ownLen k hk; simp; omega)] at h
  exact h
theorem St.reB (hs : St n w0 fs bs a w) (k : Nat) {G : Nat → Prop} {vs vs' : List Value} {ls ls' : List (List UInt8)} (h : w0.S[k]? = some (true, .bysO G vs ls)) (hl : vs'.length = ls'.length) (hp : ∀ p ∈ vs'.zip ls', p ∈ vs.zip ls) : St n (w0.withS (w0.S.set k (true, .bysO G vs' ls'))) fs bs a w :=
  hs.conS k h (fun Z hz => ⟨bysv_iff.2 ⟨hl, fun p hp' => (bysv_iff.1 hz.1).2 p (hp p hp')⟩, hz.2⟩) (fun g hg => hg)
theorem St.bLen (hs : St n w0 fs bs a w) (k : Nat) {G : Nat → Prop} {vs : List Value} {ls : List (List UInt8)} (h : w0.S[k]? = some (true, .bysO G vs ls)) : vs.length = ls.length := (hs.fz k _ h rfl).1.1
def GV (G H : Nat → Prop) (g : Nat) : Prop := G g ∨ H g
theorem bysv_app {Z : Nat → Prop} {vs us : List Value} {ls ks : List (List UInt8)} (h : BysV w Z vs ls) (h2 : BysV w Z us ks) : BysV w Z (vs ++ us) (ls ++ ks) := by
  rw [bysv_iff] at h h2 ⊢
  refine ⟨by simp [h.1, h2.1], fun p hp => ?_⟩
  rw [List.zip_append h.1, List.mem_append] at hp
  rcases hp with hp | hp
  · exact h.2 p hp
  · exact h2.2 p hp
theorem St.mergeB (hs : St n w0 fs bs a w) (k kp : Nat) {G H : Nat → Prop} {vs us : List Value} {ls ks : List (List UInt8)} (hkk : k ≠ kp) (h : w0.S[k]? = some (true, .bysO G vs ls)) (hp : w0.S[kp]? = some (true, .bysO H us ks)) :
    St n (w0.withS ((w0.S.set k (true, .bysO (GV G H) (vs ++ us) (ls ++ ks))).set kp (false, .bys [] []))) fs bs a w := by
  have key : ∀ (i : Nat) (x : Bool × Fz), ((w0.S.set k (true, .bysO (GV G H) (vs ++ us) (ls ++ ks))).set kp (false, .bys [] []))[i]? = some x → x.1 = true → (i = k ∧ x = (true, .bysO (GV G H) (vs ++ us) (ls ++ ks))) ∨ (i ≠ k ∧ i ≠ kp ∧ w0.S[i]? = some x) := by
    intro i x hx h1
    rw [List.getElem?_set] at hx
    split at hx
    · split at hx
      · obtain rfl := Option.some.inj hx
        cases h1
      · cases hx
    · rename_i hikp
      rw [List.getElem?_set] at hx
      split at hx
      · rename_i hik
        split at hx
        · exact .inl ⟨hik.symm, by simpa using hx.symm⟩
        · cases hx
      · rename_i hik; exact .inr ⟨fun e => hik e.symm, fun e => hikp e.symm, hx⟩
  have h1 := hs.fz k _ h rfl
  have h2 := hs.fz kp _ hp rfl
  refine ⟨hs.size, hs.defers, hs.slots, hs.blks, hs.apart, hs.below, hs.frz, fun i x hx hx1 => ?_⟩
  rcases key i x hx hx1 with ⟨rfl, rfl⟩ | ⟨hik, hikp, hS⟩
  · refine ⟨bysv_app (h1.1.mono fun g hg _ => ⟨.inl hg, rfl⟩) (h2.1.mono fun g hg _ => ⟨.inr hg, rfl⟩), fun g hg => ?_⟩
    have fin : ∀ j0, (j0 = i ∨ j0 = kp) → Zs w0 bs j0 g → Zs (w0.withS ((w0.S.set i (true, .bysO (GV G H) (vs ++ us) (ls ++ ks))).set kp (false, .bys [] []))) bs i g := fun j0 hj0 hz => ⟨hz.1, hz.2.1, fun j y hji hj hy ho => by
      rcases key j y hj hy with ⟨e, _⟩ | ⟨e1, e2, h3⟩
      · exact hji e
      · exact hz.2.2 j y (by rcases hj0 with rfl | rfl <;> assumption) h3 hy ho⟩
    rcases hg with hg | hg
    · obtain ⟨b1, b2, b3⟩ := h1.2 g hg
      exact ⟨b1, fin i (.inl rfl) b2, b3⟩
    · obtain ⟨b1, b2, b3⟩ := h2.2 g hg
      exact ⟨b1, fin kp (.inr rfl) b2, b3⟩
  · refine Fz.ok_mono (fun _ _ h => h) (fun g hg _ => ⟨⟨hg.1, hg.2.1, fun j y hji hj hy ho => ?_⟩, rfl⟩) (hs.fz i x hS hx1)
    rcases key j y hj hy with ⟨rfl, rfl⟩ | ⟨_, _, h3⟩
    · rcases ho with ho | ho
      · exact hg.2.2 j _ hji h rfl ho
      · exact hg.2.2 kp _ (fun e => hikp e.symm) hp rfl ho
    · exact hg.2.2 j y hji h3 hy ho
theorem St.itemZ (hs : St n w0 fs bs a w) {k : Nat} {G : Nat → Prop} {vs : List Value} {ls : List (List UInt8)} (h : w0.S[k]? = some (true, .bysO G vs ls)) {v : Value} {l : List UInt8} (hv : (v, l) ∈ vs.zip ls) : ByV w (fun _ => True) v l := (bysv_iff.1 (hs.rowB (.inl h))).2 _ hv
theorem St.celT (hs : St n w0 fs bs a w) {k N : Nat} {v : Value} {cs : List Value} (h : rowAt w0.S k = some (v, N, cs)) : CelV w (fun _ => True) v N cs := hs.row h
end
theorem byv_slice {w : World} {Z : Nat → Prop} {v : Value} {l : List UInt8} (h : ByV w Z v l) : ∃ a c, v = .slice a l.length c := by
  obtain ⟨a, c, e, _⟩ := h
  exact ⟨a, c, e⟩
theorem bys_one {w : World} {Z : Nat → Prop} {vs : List Value} {ls : List (List UInt8)} (h : BysV w Z vs ls) : ∀ u ∈ vs, u.oneCell' = true := by
  intro u hu
  obtain ⟨i, hi⟩ := List.mem_iff_getElem?.1 hu
  have hlt := (List.getElem?_eq_some_iff.1 hi).1
  obtain ⟨ad, c, e⟩ := bysv_at h (i := i) (l := ls[i]'(by rw [← h.1]; exact hlt)) (by simp [h.1 ▸ hlt])
  rw [e] at hi
  obtain rfl := Option.some.inj hi
  rfl
theorem zip3 {vs us xs : List Value} {ks js ts : List (List UInt8)} (h1 : vs.length = ks.length) (h2 : us.length = js.length) : (vs ++ us ++ xs).zip (ks ++ js ++ ts) = vs.zip ks ++ us.zip js ++ xs.zip ts := by
  rw [List.zip_append (by simp [h1, h2]), List.zip_append h1]
theorem zip_sub_left {vs us xs vs' xs' : List Value} {ks js ts ks' ts' : List (List UInt8)} (h1 : vs.length = ks.length) (h2 : us.length = js.length) (h1' : vs'.length = ks'.length) (hp : ∀ p ∈ vs'.zip ks', p ∈ vs.zip ks ∨ p ∈ xs.zip ts) (hx : ∀ p ∈ xs'.zip ts', p ∈ vs.zip ks ∨ p ∈ us.zip js ∨ p ∈ xs.zip ts) :
    ∀ p ∈ (vs' ++ us ++ xs').zip (ks' ++ js ++ ts'), p ∈ (vs ++ us ++ xs).zip (ks ++ js ++ ts) := by
  intro p h
  rw [zip3 h1' h2] at h
  rw [zip3 h1 h2]
  simp only [List.mem_append] at h ⊢
  rcases h with (h | h) | h
  · rcases hp p h with h | h
    · exact .inl (.inl h)
    · exact .inr h
  · exact .inl (.inr h)
  · rcases hx p h with h | h | h
    · exact .inl (.inl h)
    · exact .inl (.inr h)
    · exact .inr h
theorem zip_take {vs : List Value} {ks : List (List UInt8)} (n : Nat) : ∀ p ∈ (vs.take n).zip (ks.take n), p ∈ vs.zip ks := by
  intro p h
  have : (vs.take n).zip (ks.take n) = (vs.zip ks).take n := by simp [List.zip, List.take_zipWith]
  rw [this] at h
  exact List.mem_of_mem_take h
theorem zip_get {vs : List Value} {ks : List (List UInt8)} {i : Nat} {v : Value} {k : List UInt8} (hv : vs[i]? = some v) (hk : ks[i]? = some k) : (v, k) ∈ vs.zip ks := List.mem_iff_getElem?.2 ⟨i, List.getElem?_zip_eq_some.2 ⟨hv, hk⟩⟩
theorem zip_erase {vs : List Value} {ks : List (List UInt8)} (n : Nat) (hl : vs.length = ks.length) : ∀ p ∈ (vs.eraseIdx n).zip (ks.eraseIdx n), p ∈ vs.zip ks := by
  intro p h
  rw [List.eraseIdx_eq_take_drop_succ, List.eraseIdx_eq_take_drop_succ, List.zip_append (by simp [hl]), List.mem_append] at h
  rcases h with h | h
  · exact zip_take n p h
  · have : (vs.drop (n + 1)).zip (ks.drop (n + 1)) = (vs.zip ks).drop (n + 1) := by simp [List.zip, List.drop_zipWith]
    rw [this] at h
    exact List.mem_of_mem_drop h
theorem zip_snoc {vs : List Value} {ks : List (List UInt8)} {v : Value} {k : List UInt8} (hl : vs.length = ks.length) : (vs ++ [v]).zip (ks ++ [k]) = vs.zip ks ++ [(v, k)] := by rw [List.zip_append hl]; rfl
end Go.Proofs.Ytikkhkjndbicgaa

/- The contracts of number in the state kit's form: what is handed back is one's own. -/
namespace Go.Proofs.Ytikkhkjndbicgaa
open Go.RowKit
theorem rd_of {w : World} {Z : Nat → Prop} {a : Option Addr} {n c : Nat} {l : List UInt8} (h : ByV w Z (.slice a n c) l) (hlen : l.length ≤ 100000) : Rd w a l := by
  obtain ⟨a', c', e, h1, h2, h3, h4⟩ := h
  obtain ⟨rfl, rfl, rfl⟩ : a = a' ∧ n = l.length ∧ c = c' := by simpa using e
  refine ⟨by omega, fun hl => ?_⟩
  cases a with
  | none => have := h3 rfl; omega
  | some p =>
    obtain ⟨g, off, e, _, _⟩ := h4 0 _ (bcs_get (Nat.pos_of_ne_zero hl))
    refine ⟨g, off, e, fun k hk => ?_⟩
    obtain ⟨g', off', e', _, hc⟩ := h4 k _ (bcs_get hk)
    rw [e] at e'
    obtain ⟨rfl, rfl⟩ : g = g' ∧ off = off' := by simpa using e'
    exact hc
theorem ownsRow_base {w : World} {B E size n : Nat} {v : Value} {xs : List Value} (h : w.ownsRow B E size v n xs) : w.ownsRow 0 E size v n xs := by
  refine ⟨h.1, ?_⟩
  rcases h.2 with h | ⟨g, cap, cur, h1, _, h2⟩
  · exact .inl h
  · exact .inr ⟨g, cap, cur, h1, Nat.zero_le _, h2⟩
theorem enc_retO {w : World} {Z : Nat → Prop} {l : List UInt8} {e : Ending} {w' : World} (h : EncEnd w.heap.size w l e w') : Ret w Z (ρ := Option Addr × Nat) (fun r => .slice r.1 l.length r.2) (fun r => [.own (.slice r.1 l.length r.2) 5 1 l.length (bcs l)]) e w' := by
  obtain ⟨v, rfl, ho, hb⟩ := h
  have hv : ∃ a c, v = .slice a l.length c := by
    rcases ho.2 with ⟨rfl, h0⟩ | ⟨g, cap, cur, rfl, _⟩
    · exact ⟨none, 0, by rw [h0]⟩
    · exact ⟨_, _, rfl⟩
  obtain ⟨a, c, rfl⟩ := hv
  refine ⟨(a, c), rfl, hb, okl1n ⟨ownsRow_base ho, fun g hg => ?_⟩⟩
  have hlt := (World.ownsRow.lt ho g hg).1
  exact ⟨.inr (.inl hlt), .inl hlt⟩
theorem enc_o (n : Int) (hn1 : -9223372036854775808 ≤ n) (hn2 : n < 9223372036854775808) (w0 : World) (Z : Nat → Prop) : Calls Try.prog 50 #[.int .i64 n] w0 (Ret w0 Z (ρ := Option Addr × Nat) (fun r => .slice r.1 (enc n).length r.2) (fun r => [.own (.slice r.1 (enc n).length r.2) 5 1 (enc n).length (bcs (enc n))])) :=
  (encode_any w0 n hn1 hn2).mono fun _ _ h => enc_retO h
theorem flag_o (v : Bool) (w0 : World) (Z : Nat → Prop) : Calls Try.prog 52 #[.bool v] w0 (Ret w0 Z (ρ := Option Addr × Nat) (fun r => .slice r.1 (flagL v).length r.2) (fun r => [.own (.slice r.1 (flagL v).length r.2) 5 1 (flagL v).length (bcs (flagL v))])) :=
  (flag_any w0 v).mono fun _ _ h => enc_retO h
theorem look_ret {w w' : World} {Z : Nat → Prop} {v : Value} {e : Ending} (h : e = .returned v) (hb : Below w.heap.size w w') : Ret w Z (ρ := Unit) (fun _ => v) (fun _ => []) e w' := ⟨(), h, hb, okl0⟩
def decN (x : List UInt8) (most : Int) : Int × Nat := if decOk x most then (val x, 0) else (0, 15)
theorem decV_N (x : List UInt8) (most : Int) : decV x most = .tuple #[.int .i64 (decN x most).1, .int .i64 (((decN x most).2 : Nat) : Int)] := by
  unfold decV decN
  split <;> rfl
theorem dec_c (a : Option Addr) (nl c : Nat) (x : List UInt8) (hlen : x.length ≤ 100000) (most : Int) (n : Int) (er : Nat) (hd : decN x most = (n, er)) (w0 : World) (Z : Nat → Prop) (hx : ByV w0 Z (.slice a nl c) x) : Calls Try.prog 64 #[.slice a nl c, .int .i64 most] w0 (Ret w0 Z (ρ := Unit) (fun _ => .tuple #[.int .i64 n, .int .i64 ((er : Nat) : Int)]) (fun _ => [])) := by
  obtain rfl := byv_len hx
  refine (decode_any w0 a x c most (rd_of hx hlen)).mono fun e w' h => look_ret (h.1.trans ?_) h.2
  rw [decV_N, hd]
theorem rdec_c (a : Option Addr) (nl c : Nat) (x : List UInt8) (hlen : x.length ≤ 100000) (most : Int) (n : Int) (er : Nat) (hd : decN x most = (n, er)) (w0 : World) (Z : Nat → Prop) (hx : ByV w0 Z (.slice a nl c) x) : Calls Try.prog 41 #[.slice a nl c, .int .i64 most] w0 (Ret w0 Z (ρ := Unit) (fun _ => .tuple #[.int .i64 n, .int .i64 ((er : Nat) : Int)]) (fun _ => [])) := by
  obtain rfl := byv_len hx
  refine (decodeR_any w0 a x c most (rd_of hx hlen)).mono fun e w' h => look_ret (h.1.trans ?_) h.2
  rw [decV_N, hd]
theorem truth_c (a : Option Addr) (nl c : Nat) (x : List UInt8) (hlen : x.length ≤ 100000) (q : Bool) (hq : truthL x = q) (w0 : World) (Z : Nat → Prop) (hx : ByV w0 Z (.slice a nl c) x) : Calls Try.prog 47 #[.slice a nl c] w0 (Ret w0 Z (ρ := Unit) (fun _ => .bool q) (fun _ => [])) := by
  obtain rfl := byv_len hx
  refine (truth_any w0 a x c (rd_of hx hlen)).mono fun e w' h => look_ret (h.1.trans (by rw [hq])) (h.2 ▸ Below.refl _ _)
theorem rtruth_c (a : Option Addr) (nl c : Nat) (x : List UInt8) (hlen : x.length ≤ 100000) (q : Bool) (hq : truthL x = q) (w0 : World) (Z : Nat → Prop) (hx : ByV w0 Z (.slice a nl c) x) : Calls Try.prog 73 #[.slice a nl c] w0 (Ret w0 Z (ρ := Unit) (fun _ => .bool q) (fun _ => [])) := by
  obtain rfl := byv_len hx
  refine (truthR_any w0 a x c (rd_of hx hlen)).mono fun e w' h => look_ret (h.1.trans (by rw [hq])) (h.2 ▸ Below.refl _ _)
theorem dec4 {x : List UInt8} {n : Int} {er : Nat} (h : decN x 4 = (n, er)) : -2147483648 < n ∧ n < 2147483648 := by
  unfold decN at h
  split at h
  · rename_i ho
    obtain ⟨rfl, _⟩ := Prod.mk.inj h
    unfold decOk at ho
    simp only [Bool.and_eq_true, decide_eq_true_eq] at ho
    have hl : x.length ≤ 4 := by omega
    have h1 := vlt_le x 3 (by omega)
    have h2 := val_eq x
    split at h2 <;> omega
  · obtain ⟨rfl, _⟩ := Prod.mk.inj h
    omega
end Go.Proofs.Ytikkhkjndbicgaa

/- SHA-256, as numbers and lists of bytes. Plain law, no program here. -/
namespace Go.Proofs.Ytikkhkjndbicgaa
def rr (x n : Nat) : Nat := (x / 2 ^ n) ||| (x * 2 ^ (32 - n) % 4294967296)
theorem rr_lt {x n : Nat} (h : x < 4294967296) : rr x n < 4294967296 :=
  Nat.or_lt_two_pow (n := 32) (Nat.lt_of_le_of_lt (Nat.div_le_self _ _) h) (Nat.mod_lt _ (by decide))
theorem x32 {x y : Nat} (hx : x < 4294967296) (hy : y < 4294967296) : x ^^^ y < 4294967296 := Nat.xor_lt_two_pow (n := 32) hx hy
theorem a32 {x y : Nat} (hy : y < 4294967296) : x &&& y < 4294967296 := Nat.and_lt_two_pow (n := 32) x hy
theorem m32 (x : Nat) : x % 4294967296 < 4294967296 := Nat.mod_lt _ (by decide)
def ss0 (x : Nat) : Nat := (rr x 7 ^^^ rr x 18) ^^^ (x / 2 ^ 3)
def ss1 (x : Nat) : Nat := (rr x 17 ^^^ rr x 19) ^^^ (x / 2 ^ 10)
def pre4 (b : List UInt8) (t : Nat) : Nat → Nat
  | 0 => 0
  | k + 1 => pre4 b t k * 256 + byt b (4 * t + k)
theorem pre4_lt (b : List UInt8) (t : Nat) : ∀ k, pre4 b t k < 256 ^ k
  | 0 => by simp [pre4]
  | k + 1 => by
    have h := pre4_lt b t k
    have := byt_lt b (4 * t + k)
    rw [pre4, Nat.pow_succ]
    omega
theorem pre4_24 {b : List UInt8} {t k : Nat} (h : k < 4) : pre4 b t k < 16777216 := by
  have h1 := pre4_lt b t k
  have h2 : 256 ^ k ≤ 256 ^ 3 := Nat.pow_le_pow_right (by decide) (by omega)
  have : 256 ^ 3 = 16777216 := by decide
  omega
theorem or_256' {x y : Nat} (hx : x < 256) : y * 256 ||| x = y * 256 + x := by
  have := Nat.shiftLeft_add_eq_or_of_lt (i := 8) (b := x) (by omega) y
  rw [Nat.shiftLeft_eq] at this
  rw [show (256 : Nat) = 2 ^ 8 from rfl, ← this]
def wv (b : List UInt8) (t : Nat) : Nat :=
  if _h : t < 16 then pre4 b t 4 else (((wv b (t - 16) + ss0 (wv b (t - 15))) % 4294967296 + wv b (t - 7)) % 4294967296 + ss1 (wv b (t - 2))) % 4294967296
termination_by t
decreasing_by all_goals omega
theorem wv_lo {b : List UInt8} {t : Nat} (h : t < 16) : wv b t = pre4 b t 4 := by rw [wv, dif_pos h]
theorem wv_hi {b : List UInt8} {t : Nat} (h : ¬ t < 16) : wv b t = (((wv b (t - 16) + ss0 (wv b (t - 15))) % 4294967296 + wv b (t - 7)) % 4294967296 + ss1 (wv b (t - 2))) % 4294967296 := by rw [wv, dif_neg h]
theorem wv_lt (b : List UInt8) (t : Nat) : wv b t < 4294967296 := by
  by_cases h : t < 16
  · rw [wv_lo h]
    have := pre4_lt b t 4
    have e : 256 ^ 4 = 4294967296 := by decide
    omega
  · rw [wv_hi h]; exact m32 _
def KK (i : Nat) : Nat := [1116352408, 1899447441, 3049323471, 3921009573, 961987163, 1508970993, 2453635748, 2870763221, 3624381080, 310598401, 607225278, 1426881987, 1925078388, 2162078206, 2614888103, 3248222580,
  3835390401, 4022224774, 264347078, 604807628, 770255983, 1249150122, 1555081692, 1996064986, 2554220882, 2821834349, 2952996808, 3210313671, 3336571891, 3584528711, 113926993, 338241895,
  666307205, 773529912, 1294757372, 1396182291, 1695183700, 1986661051, 2177026350, 2456956037, 2730485921, 2820302411, 3259730800, 3345764771, 3516065817, 3600352804, 4094571909, 275423344,
  430227734, 506948616, 659060556, 883997877, 958139571, 1322822218, 1537002063, 1747873779, 1955562222, 2024104815, 2227730452, 2361852424, 2428436474, 2756734187, 3204031479, 3329325298].getD i 0
def ft8 (a b c d e f g h : Nat) (i : Nat) : Nat := [a, b, c, d, e, f, g, h].getD i 0
def HH0 : Nat → Nat := ft8 1779033703 3144134277 1013904242 2773480762 1359893119 2600822924 528734635 1541459225
theorem ft8_lt {a b c d e f g h : Nat} {M : Nat} (h0 : 0 < M) (ha : a < M) (hb : b < M) (hc : c < M) (hd : d < M) (he : e < M) (hf : f < M) (hg : g < M) (hh : h < M) (i : Nat) : ft8 a b c d e f g h i < M := by
  match i with
  | 0 => exact ha
  | 1 => exact hb
  | 2 => exact hc
  | 3 => exact hd
  | 4 => exact he
  | 5 => exact hf
  | 6 => exact hg
  | 7 => exact hh
  | i + 8 => simpa [ft8] using h0
theorem HH0_lt (i : Nat) : HH0 i < 4294967296 := ft8_lt (by decide) (by decide) (by decide) (by decide) (by decide) (by decide) (by decide) (by decide) (by decide) i
theorem KK_lt (i : Nat) : KK i < 4294967296 := by
  by_cases h : i < 64
  · have : ∀ j : Fin 64, KK j.1 < 4294967296 := by decide
    exact this ⟨i, h⟩
  · unfold KK
    rw [List.getD_eq_getElem?_getD, List.getElem?_eq_none (by simp; omega)]
    decide
def t1v (k w : Nat) (v : Nat → Nat) : Nat :=
  ((((v 7 + ((rr (v 4) 6 ^^^ rr (v 4) 11) ^^^ rr (v 4) 25)) % 4294967296 + ((v 4 &&& v 5) ^^^ ((4294967295 - v 4) &&& v 6))) % 4294967296 + k) % 4294967296 + w) % 4294967296
def t2v (v : Nat → Nat) : Nat :=
  (((rr (v 0) 2 ^^^ rr (v 0) 13) ^^^ rr (v 0) 22) + (((v 0 &&& v 1) ^^^ (v 0 &&& v 2)) ^^^ (v 1 &&& v 2))) % 4294967296
def rnd (k w : Nat) (v : Nat → Nat) : Nat → Nat := ft8 ((t1v k w v + t2v v) % 4294967296) (v 0) (v 1) (v 2) ((v 3 + t1v k w v) % 4294967296) (v 4) (v 5) (v 6)
theorem rnd_lt {k w : Nat} {v : Nat → Nat} (h : ∀ j, v j < 4294967296) (j : Nat) : rnd k w v j < 4294967296 :=
  ft8_lt (by decide) (m32 _) (h _) (h _) (h _) (m32 _) (h _) (h _) (h _) j
def rnds (w h : Nat → Nat) : Nat → Nat → Nat
  | 0 => h
  | t + 1 => rnd (KK t) (w t) (rnds w h t)
theorem rnds_lt {w h : Nat → Nat} (hh : ∀ j, h j < 4294967296) : ∀ t j, rnds w h t j < 4294967296
  | 0, j => hh j
  | t + 1, j => rnd_lt (rnds_lt hh t) j
def blk (h : Nat → Nat) (b : List UInt8) (i : Nat) : Nat := (h i + rnds (wv b) h 64 i) % 4294967296
theorem blk_lt (h : Nat → Nat) (b : List UInt8) (i : Nat) : blk h b i < 4294967296 := m32 _
def blks (h : Nat → Nat) (l : List UInt8) : Nat → Nat := if _h : l.length < 64 then h else blks (blk h (l.take 64)) (l.drop 64)
termination_by l.length
decreasing_by simp; omega
theorem blks_end {h : Nat → Nat} {l : List UInt8} (hl : l.length < 64) : blks h l = h := by rw [blks, dif_pos hl]
theorem blks_step {h : Nat → Nat} {l : List UInt8} (hl : ¬ l.length < 64) : blks h l = blks (blk h (l.take 64)) (l.drop 64) := by rw [blks, dif_neg hl]
theorem blks_lt {h : Nat → Nat} (hh : ∀ j, h j < 4294967296) (l : List UInt8) (j : Nat) : blks h l j < 4294967296 := by
  induction hn : l.length using Nat.strongRecOn generalizing h l with
  | _ n ih =>
    by_cases hl : l.length < 64
    · rw [blks_end hl]; exact hh j
    · rw [blks_step hl]
      exact ih _ (by simp; omega) (blk_lt _ _) _ rfl
def rst (l : List UInt8) : List UInt8 := l.drop (64 * (l.length / 64))
theorem rst_end {l : List UInt8} (hl : l.length < 64) : rst l = l := by unfold rst; rw [Nat.div_eq_of_lt hl]; simp
theorem rst_step {l : List UInt8} (hl : ¬ l.length < 64) : rst l = rst (l.drop 64) := by
  unfold rst
  rw [List.drop_drop, List.length_drop]
  congr 1
  omega
theorem rst_length (l : List UInt8) : (rst l).length = l.length % 64 := by unfold rst; rw [List.length_drop]; omega
theorem blks_append {h : Nat → Nat} (l k : List UInt8) : blks h (l ++ k) = blks (blks h l) (rst l ++ k) := by
  induction hn : l.length using Nat.strongRecOn generalizing h l with
  | _ n ih =>
    by_cases hl : l.length < 64
    · rw [blks_end hl, rst_end hl]
    · rw [blks_step hl, rst_step hl, blks_step (l := l ++ k) (by simp; omega), List.take_append_of_le_length (by omega), List.drop_append_of_le_length (by omega)]
      exact ih _ (by simp; omega) _ rfl
theorem rst_append (l k : List UInt8) : rst (l ++ k) = rst (rst l ++ k) := by
  induction hn : l.length using Nat.strongRecOn generalizing l with
  | _ n ih =>
    by_cases hl : l.length < 64
    · rw [rst_end hl]
    · rw [rst_step hl, rst_step (l := l ++ k) (by simp; omega), List.drop_append_of_le_length (by omega)]
      exact ih _ (by simp; omega) _ rfl
def be8 (x : Nat) : List UInt8 := (List.range 8).map fun i => UInt8.ofNat (x / 2 ^ (56 - 8 * i) % 256)
def be8t (x k : Nat) : List UInt8 := (List.range k).map fun i => UInt8.ofNat (x / 2 ^ (56 - 8 * i) % 256)
theorem be8t_succ (x k : Nat) : be8t x (k + 1) = be8t x k ++ [UInt8.ofNat (x / 2 ^ (56 - 8 * k) % 256)] := by simp [be8t, List.range_succ]
theorem be8t_len (x k : Nat) : (be8t x k).length = k := by simp [be8t]
def zs64 (m : Nat) : Nat := (119 - m % 64) % 64
def tl0 (j : Nat) : List UInt8 := UInt8.ofNat 128 :: List.replicate j 0
def tl64 (m n : Nat) : List UInt8 := tl0 (zs64 m) ++ be8 (n * 8)
theorem tl0_len (j : Nat) : (tl0 j).length = j + 1 := by simp [tl0]
theorem tl0_succ (j : Nat) : tl0 j ++ [UInt8.ofNat 0] = tl0 (j + 1) := by
  unfold tl0
  rw [List.replicate_succ', List.cons_append]; rfl
theorem tl64_mod (m n : Nat) : tl64 (m % 64) n = tl64 m n := by unfold tl64 zs64; rw [Nat.mod_mod]
theorem tl64_len (m n : Nat) : (m + (tl64 m n).length) % 64 = 0 := by
  unfold tl64 zs64
  simp [tl0_len, be8]
  omega
theorem zs_end {m j : Nat} (hj : j ≤ zs64 m) (h : (m + (j + 1)) % 64 = 56) : j = zs64 m := by unfold zs64 at *; omega
theorem zs_go {m j : Nat} (hj : j ≤ zs64 m) (h : ¬ (m + (j + 1)) % 64 = 56) : j + 1 ≤ zs64 m := by
  by_cases e : j = zs64 m
  · exfalso; subst e; unfold zs64 at h; omega
  · omega
def shaH (l : List UInt8) : Nat → Nat := blks HH0 (l ++ tl64 l.length l.length)
def shaB (h : Nat → Nat) (j : Nat) : Nat := h (j / 4) / 2 ^ (24 - 8 * (j % 4)) % 256
def sha (l : List UInt8) (j : Nat) : Nat := shaB (shaH l) j
theorem shaB_lt (h : Nat → Nat) (j : Nat) : shaB h j < 256 := Nat.mod_lt _ (by decide)
theorem sha_lt (l : List UInt8) (j : Nat) : sha l j < 256 := shaB_lt _ _
theorem sha_go (l : List UInt8) : blks (blks HH0 l) (rst l ++ tl64 (rst l).length l.length) = shaH l := by
  unfold shaH
  rw [rst_length, tl64_mod, ← blks_append]
theorem wr_go (h : Nat → Nat) (l k : List UInt8) : blks (blks h l) (rst l ++ k) = blks h (l ++ k) := (blks_append l k).symm
theorem not32 {x : Nat} (h : x < 4294967296) : x ^^^ 4294967295 = 4294967295 - x := by
  have e := BitVec.toNat_not (x := BitVec.ofNat 32 x)
  have e2 : (~~~ (BitVec.ofNat 32 x)) = BitVec.ofNat 32 x ^^^ BitVec.allOnes 32 := (BitVec.xor_allOnes).symm
  rw [e2, BitVec.toNat_xor, BitVec.toNat_ofNat, BitVec.toNat_allOnes, Nat.mod_eq_of_lt h] at e
  exact e
theorem or_add {x y k : Nat} (hx : x < 2 ^ k) : y * 2 ^ k ||| x = y * 2 ^ k + x := by
  have := Nat.shiftLeft_add_eq_or_of_lt (i := k) (b := x) hx y
  rw [Nat.shiftLeft_eq] at this
  exact this.symm
theorem or4 {a b c d : Nat} (hb : b < 256) (hc : c < 256) (hd : d < 256) : ((a * 2 ^ 24 ||| b * 2 ^ 16) ||| c * 2 ^ 8) ||| d = ((a * 256 + b) * 256 + c) * 256 + d := by
  rw [or_add (x := b * 2 ^ 16) (k := 24) (by omega), show a * 2 ^ 24 + b * 2 ^ 16 = (a * 256 + b) * 2 ^ 16 by omega, or_add (x := c * 2 ^ 8) (k := 16) (by omega),
    show (a * 256 + b) * 2 ^ 16 + c * 2 ^ 8 = ((a * 256 + b) * 256 + c) * 2 ^ 8 by omega, or_add (x := d) (k := 8) (by omega)]
theorem pre4_4 (b : List UInt8) (t : Nat) : pre4 b t 4 = ((byt b (4 * t) * 256 + byt b (4 * t + 1)) * 256 + byt b (4 * t + 2)) * 256 + byt b (4 * t + 3) := by
  simp [pre4]
theorem wv_comm (a b c d : Nat) : (((a + b) % 4294967296 + c) % 4294967296 + d) % 4294967296 = (((d + c) % 4294967296 + b) % 4294967296 + a) % 4294967296 := by omega
def w16 (l : List UInt8) (i k j : Nat) : Nat := if j < i then wv l j else if j = i then pre4 l i k else 0
theorem w16_at (l : List UInt8) (i k : Nat) : w16 l i k i = pre4 l i k := by simp [w16]
theorem w16_zero (l : List UInt8) (j : Nat) : 0 = w16 l 0 0 j := by unfold w16; rw [if_neg (by omega)]; split <;> rfl
theorem w16_next {l : List UInt8} {i : Nat} (hi : i < 16) (j : Nat) : w16 l i 4 j = w16 l (i + 1) 0 j := by
  unfold w16
  by_cases h : j < i
  · rw [if_pos h, if_pos (by omega)]
  · rw [if_neg h]
    by_cases h2 : j = i
    · subst h2
      rw [if_pos rfl, if_pos (by omega), wv_lo hi]
    · rw [if_neg h2, if_neg (by omega)]; split <;> rfl
theorem w16_step {l : List UInt8} {i k z : Nat} (hz : z = pre4 l i k * 256 + byt l (4 * i + k)) (j : Nat) : upn (w16 l i k) i z j = w16 l i (k + 1) j := by
  unfold upn w16
  by_cases h : j = i
  · subst h
    rw [if_pos rfl, if_neg (by omega), if_pos rfl, hz]; rfl
  · rw [if_neg h]
    by_cases h2 : j < i
    · rw [if_pos h2, if_pos h2]
    · rw [if_neg h2, if_neg h, if_neg h2, if_neg h]
def w64 (l : List UInt8) (i j : Nat) : Nat := if j < i then wv l j else 0
theorem w64_at {l : List UInt8} {i j : Nat} (h : j < i) : wv l j = w64 l i j := (if_pos h).symm
theorem w64_lt (l : List UInt8) (i j : Nat) : w64 l i j < 4294967296 := by unfold w64; split; exact wv_lt _ _; decide
theorem w64_16 (l : List UInt8) (j : Nat) : w16 l 16 0 j = w64 l 16 j := by
  unfold w16 w64
  split
  · rfl
  · split <;> rfl
theorem w64_step {l : List UInt8} {i z : Nat} (hz : z = wv l i) (j : Nat) : upn (w64 l i) i z j = w64 l (i + 1) j := by
  unfold upn w64
  by_cases h : j = i
  · subst h; rw [if_pos rfl, if_pos (by omega), hz]
  · rw [if_neg h]
    by_cases h2 : j < i
    · rw [if_pos h2, if_pos (by omega)]
    · rw [if_neg h2, if_neg (by omega)]
theorem w64_end {l : List UInt8} {j : Nat} (h : j < 64) : w64 l 64 j = wv l j := if_pos h
theorem byt_part {l : List UInt8} {a n k : Nat} (h : k < n) : byt ((l.drop a).take n) k = byt l (a + k) := by
  unfold byt
  rw [List.getD_eq_getElem?_getD, List.getElem?_take_of_lt h, List.getElem?_drop, List.getD_eq_getElem?_getD]
def addT (h v : Nat → Nat) (i j : Nat) : Nat := if j < i then (h j + v j) % 4294967296 else h j
theorem addT_zero (h v : Nat → Nat) (j : Nat) : h j = addT h v 0 j := by unfold addT; rw [if_neg (by omega)]
theorem addT_at (h v : Nat → Nat) (i : Nat) : addT h v i i = h i := by unfold addT; rw [if_neg (by omega)]
theorem addT_lt {h v : Nat → Nat} (hh : ∀ j, h j < 4294967296) (i j : Nat) : addT h v i j < 4294967296 := by unfold addT; split; exact m32 _; exact hh j
theorem addT_step {h v : Nat → Nat} {i z : Nat} (hz : z = (h i + v i) % 4294967296) (j : Nat) : upn (addT h v i) i z j = addT h v (i + 1) j := by
  unfold upn addT
  by_cases e : j = i
  · subst e; rw [if_pos rfl, if_pos (by omega), hz]
  · rw [if_neg e]
    by_cases h2 : j < i
    · rw [if_pos h2, if_pos (by omega)]
    · rw [if_neg h2, if_neg (by omega)]
theorem addT_end {h : Nat → Nat} {b : List UInt8} {j : Nat} (hj : j < 8) : addT h (rnds (wv b) h 64) 8 j = blk h b j := if_pos hj
def addV (h v : Nat → Nat) (i j : Nat) : Nat := if j < i then (v j + h j) % 4294967296 else v j
theorem addV_zero (h v : Nat → Nat) (j : Nat) : v j = addV h v 0 j := by unfold addV; rw [if_neg (by omega)]
theorem addV_at (h v : Nat → Nat) (i : Nat) : addV h v i i = v i := by unfold addV; rw [if_neg (by omega)]
theorem addV_lt {h v : Nat → Nat} (hv : ∀ j, v j < 4294967296) (i j : Nat) : addV h v i j < 4294967296 := by unfold addV; split; exact m32 _; exact hv j
theorem addV_step {h v : Nat → Nat} {i z : Nat} (hz : z = (v i + h i) % 4294967296) (j : Nat) : upn (addV h v i) i z j = addV h v (i + 1) j := by
  unfold upn addV
  by_cases e : j = i
  · subst e; rw [if_pos rfl, if_pos (by omega), hz]
  · rw [if_neg e]
    by_cases h2 : j < i
    · rw [if_pos h2, if_pos (by omega)]
    · rw [if_neg h2, if_neg (by omega)]
theorem addV_end {h : Nat → Nat} {b : List UInt8} {j : Nat} (hj : j < 8) : addV h (rnds (wv b) h 64) 8 j = blk h b j := by
  unfold addV blk; rw [if_pos hj, Nat.add_comm]
theorem tab_snoc1 {k : IntKind} {n z : Nat} {f : Nat → Nat} (h : f n = z) : tab k n f ++ [.int k (z : Int)] = tab k (n + 1) f := by
  subst h; simp [tab, List.range_succ]
theorem tl64_le (m n : Nat) : (tl64 m n).length ≤ 72 := by
  unfold tl64 zs64
  simp [tl0_len, be8]
  omega
def outT (h : Nat → Nat) (i j : Nat) : Nat := if j < i then shaB h j else 0
theorem outT_zero (h : Nat → Nat) (j : Nat) : 0 = outT h 0 j := by unfold outT; rw [if_neg (by omega)]
theorem outT_step {h : Nat → Nat} {i z : Nat} (hz : z = shaB h i) (j : Nat) : upn (outT h i) i z j = outT h (i + 1) j := by
  unfold upn outT
  by_cases e : j = i
  · subst e; rw [if_pos rfl, if_pos (by omega), hz]
  · rw [if_neg e]
    by_cases h2 : j < i
    · rw [if_pos h2, if_pos (by omega)]
    · rw [if_neg h2, if_neg (by omega)]
theorem outT_end {h : Nat → Nat} {j : Nat} (hj : j < 32) : outT h 32 j = shaB h j := if_pos hj
theorem shaB_at {h : Nat → Nat} {i k : Nat} (hk : k < 4) : h i / 2 ^ (24 - 8 * k) % 256 = shaB h (4 * i + k) := by
  unfold shaB
  rw [show (4 * i + k) / 4 = i by omega, show (4 * i + k) % 4 = k by omega]
def tagH (t l : List UInt8) : Nat → Nat := sha (btl 32 (sha t) ++ btl 32 (sha t) ++ l)
def dbl (l : List UInt8) : Nat → Nat := sha (btl 32 (sha l))
theorem dbl_lt (l : List UInt8) (j : Nat) : dbl l j < 256 := sha_lt _ _
theorem wr_h (m b : List UInt8) : blks (blks HH0 m) (rst m ++ b) = blks HH0 (m ++ b) := wr_go HH0 m b
theorem rst_lt (l : List UInt8) : (rst l).length < 64 := by rw [rst_length]; exact Nat.mod_lt _ (by decide)
theorem sha_sum (m : List UInt8) : blks (blks HH0 m) (rst m ++ tl64 (rst m).length m.length) = shaH m := sha_go m
end Go.Proofs.Ytikkhkjndbicgaa

/- Stacks: what the operations make of lists of byte strings, in plain Lean. -/
namespace Go.Proofs.Ytikkhkjndbicgaa
open Go.RowKit
abbrev BL := List (List UInt8)
structure M1 where
  a : Option Addr
  c : Nat
  vs : List Value
  G : Nat → Prop
structure M1x where
  a : Option Addr
  c : Nat
  vs : List Value
  x : Option Addr
  y : Nat
structure M1o where
  a : Option Addr
  c : Nat
  vs : List Value
  o : Nat
structure M2g where
  a : Option Addr
  c : Nat
  vs : List Value
  b : Option Addr
  d : Nat
  us : List Value
  G : Nat → Prop
  o : Nat
structure M2x where
  a : Option Addr
  c : Nat
  vs : List Value
  b : Option Addr
  d : Nat
  us : List Value
  G : Nat → Prop
  x : Option Addr
  y : Nat
structure M2 where
  a : Option Addr
  c : Nat
  vs : List Value
  b : Option Addr
  d : Nat
  us : List Value
  G : Nat → Prop
def failE (e k : Nat) : Nat := if e = 0 then k else e
def needE (N n e : Nat) : Nat := if N < n then failE e 12 else e
def mustE (b : Bool) (e : Nat) : Nat := if b = true then e else failE e 16
def lastB (ks : BL) : List UInt8 := ks.getD (ks.length - 1) []
def popL (ks : BL) (e : Nat) : List UInt8 × BL × Nat :=
  if needE ks.length 1 e = 0 then (lastB ks, ks.take (ks.length - 1), 0) else ([], ks, needE ks.length 1 e)
def readL (x : List UInt8) (most : Int) (e : Nat) : Int × Nat := if e = 0 then decN x most else (0, e)
def shufL (n : Nat) (ps : List Nat) (ks : BL) (e : Nat) : BL × Nat :=
  if needE ks.length n e = 0 then (ks.take (ks.length - n) ++ ps.map (fun p => (ks.drop (ks.length - n)).getD p []), 0) else (ks, needE ks.length n e)
def deepR (r : Bool) (n : Int) (ks : BL) : BL × Nat :=
  if n < 0 ∨ (ks.length : Int) ≤ n then (ks, 12)
  else ((if r = true then ks.eraseIdx (ks.length - 1 - n.toNat) else ks) ++ [ks.getD (ks.length - 1 - n.toNat) []], 0)
def deepL (r : Bool) (ks : BL) (e : Nat) : BL × Nat :=
  if (readL (popL ks e).1 4 (popL ks e).2.2).2 = 0 then deepR r (readL (popL ks e).1 4 (popL ks e).2.2).1 (popL ks e).2.1
  else ((popL ks e).2.1, (readL (popL ks e).1 4 (popL ks e).2.2).2)
def backL (ks js : BL) (e : Nat) : BL × BL × Nat := if js.length = 0 then (ks, js, failE e 12) else (ks ++ [lastB js], js.take (js.length - 1), e)
def joinL (ks : BL) (e : Nat) : BL × Nat :=
  if needE ks.length 2 e = 0 then (ks.take (ks.length - 2) ++ [ks.getD (ks.length - 2) [] ++ ks.getD (ks.length - 1) []], 0) else (ks, needE ks.length 2 e)
def alikL (ks : BL) (e : Nat) : Bool × BL × Nat :=
  if needE ks.length 2 e = 0 then (decide (ks.getD (ks.length - 1) [] = ks.getD (ks.length - 2) []), ks.take (ks.length - 2), 0) else (false, ks, needE ks.length 2 e)
def hashL (f : List UInt8 → List UInt8) (ks : BL) (e : Nat) : BL × Nat :=
  if needE ks.length 1 e = 0 then (ks.take (ks.length - 1) ++ [f (lastB ks)], 0) else (ks, needE ks.length 1 e)
def opsR : Nat → BL → Nat → List Int × BL × Nat
  | 0, ks, e => ([], ks, e)
  | n + 1, ks, e =>
    let r := readL (popL ks e).1 4 (popL ks e).2.2
    let s := opsR n (popL ks e).2.1 r.2
    (s.1 ++ [r.1], s.2)
def opsL (n : Nat) (ks : BL) (e : Nat) : List Int × BL × Nat :=
  if needE ks.length n e = 0 then opsR n ks 0 else (List.replicate n 0, ks, needE ks.length n e)
def truI (b : Bool) : Int := if b = true then 1 else 0
def unL (op : Nat) (x : Int) : Int × Bool :=
  if op = 139 then (x + 1, true) else if op = 140 then (x - 1, true) else if op = 143 then (-x, true) else if op = 144 then (max x (-x), true)
  else if op = 145 then (truI (decide (x = 0)), true) else if op = 146 then (truI (decide (x ≠ 0)), true) else (0, false)
def cmpL (op : Nat) (x y : Int) : Bool × Bool :=
  if op = 154 then (decide (x ≠ 0) && decide (y ≠ 0), true) else if op = 155 then (decide (x ≠ 0) || decide (y ≠ 0), true)
  else if op = 156 then (decide (x = y), true) else if op = 157 then (decide (x = y), true) else if op = 158 then (decide (x ≠ y), true)
  else if op = 159 then (decide (x < y), true) else if op = 160 then (decide (y < x), true) else if op = 161 then (decide (x ≤ y), true)
  else if op = 162 then (decide (y ≤ x), true) else (false, false)
def binL (op : Nat) (x y : Int) : Int × Bool :=
  if op = 147 then (x + y, true) else if op = 148 then (x - y, true) else if op = 163 then (min x y, true) else if op = 164 then (max x y, true)
  else (truI (cmpL op x y).1, (cmpL op x y).2)
def movL (op : Nat) (ks js : BL) (e : Nat) : Bool × BL × BL × Nat :=
  if op = 97 then (true, ks, js, e)
  else if op = 107 then (true, (popL ks e).2.1, js ++ [(popL ks e).1], (popL ks e).2.2)
  else if op = 108 then (true, backL ks js e)
  else if op = 109 then (true, (shufL 2 [] ks e).1, js, (shufL 2 [] ks e).2)
  else if op = 110 then (true, (shufL 2 [0, 1, 0, 1] ks e).1, js, (shufL 2 [0, 1, 0, 1] ks e).2)
  else if op = 111 then (true, (shufL 3 [0, 1, 2, 0, 1, 2] ks e).1, js, (shufL 3 [0, 1, 2, 0, 1, 2] ks e).2)
  else if op = 112 then (true, (shufL 4 [0, 1, 2, 3, 0, 1] ks e).1, js, (shufL 4 [0, 1, 2, 3, 0, 1] ks e).2)
  else if op = 113 then (true, (shufL 6 [2, 3, 4, 5, 0, 1] ks e).1, js, (shufL 6 [2, 3, 4, 5, 0, 1] ks e).2)
  else if op = 114 then (true, (shufL 4 [2, 3, 0, 1] ks e).1, js, (shufL 4 [2, 3, 0, 1] ks e).2)
  else if op = 117 then (true, (shufL 1 [] ks e).1, js, (shufL 1 [] ks e).2)
  else if op = 118 then (true, (shufL 1 [0, 0] ks e).1, js, (shufL 1 [0, 0] ks e).2)
  else if op = 119 then (true, (shufL 2 [1] ks e).1, js, (shufL 2 [1] ks e).2)
  else if op = 120 then (true, (shufL 2 [0, 1, 0] ks e).1, js, (shufL 2 [0, 1, 0] ks e).2)
  else if op = 123 then (true, (shufL 3 [1, 2, 0] ks e).1, js, (shufL 3 [1, 2, 0] ks e).2)
  else if op = 124 then (true, (shufL 2 [1, 0] ks e).1, js, (shufL 2 [1, 0] ks e).2)
  else if op = 125 then (true, (shufL 2 [1, 0, 1] ks e).1, js, (shufL 2 [1, 0, 1] ks e).2)
  else (false, ks, js, e)
def ifdL (ks : BL) (e : Nat) : BL × Nat :=
  if needE ks.length 1 e = 0 ∧ truthL (lastB ks) = true then (ks ++ [lastB ks], 0) else (ks, needE ks.length 1 e)
def sizL (ks : BL) (e : Nat) : BL × Nat :=
  if needE ks.length 1 e = 0 then (ks ++ [enc ((lastB ks).length : Int)], 0) else (ks, needE ks.length 1 e)
def shaV (x : List UInt8) : List UInt8 := btl 32 (sha x)
def dblV (x : List UInt8) : List UInt8 := btl 32 (dbl x)
def redL (op : Nat) (ks : BL) (e : Nat) : Bool × BL × Nat :=
  if op = 121 then (true, deepL false ks e)
  else if op = 122 then (true, deepL true ks e)
  else if op = 105 then (true, (popL ks e).2.1, mustE (truthL (popL ks e).1) (popL ks e).2.2)
  else if op = 115 then (true, ifdL ks e)
  else if op = 116 then (true, ks ++ [enc (ks.length : Int)], e)
  else if op = 126 then (true, joinL ks e)
  else if op = 130 then (true, sizL ks e)
  else if op = 135 then (true, (alikL ks e).2.1 ++ [flagL (alikL ks e).1], (alikL ks e).2.2)
  else if op = 136 then (true, (alikL ks e).2.1, mustE (alikL ks e).1 (alikL ks e).2.2)
  else if op = 168 then (true, hashL shaV ks e)
  else if op = 170 then (true, hashL dblV ks e)
  else (false, ks, e)
def wthB (zs : List Int) : Bool := decide (zs.getD 1 0 ≤ zs.getD 0 0) && decide (zs.getD 0 0 < zs.getD 2 0)
def recL (op : Nat) (ks : BL) (e : Nat) : Bool × BL × Nat :=
  if op = 165 then (true, (opsL 3 ks e).2.1 ++ [flagL (wthB (opsL 3 ks e).1)], (opsL 3 ks e).2.2)
  else if (unL op 0).2 = true then (true, (opsL 1 ks e).2.1 ++ [enc (unL op ((opsL 1 ks e).1.getD 0 0)).1], (opsL 1 ks e).2.2)
  else if (binL op 0 0).2 = false then (false, ks, e)
  else if op = 157 then (true, (opsL 2 ks e).2.1, mustE (decide ((binL op ((opsL 2 ks e).1.getD 0 0) ((opsL 2 ks e).1.getD 1 0)).1 ≠ 0)) (opsL 2 ks e).2.2)
  else (true, (opsL 2 ks e).2.1 ++ [enc (binL op ((opsL 2 ks e).1.getD 0 0) ((opsL 2 ks e).1.getD 1 0)).1], (opsL 2 ks e).2.2)
def longB (ks : BL) : Bool := ks.any fun x => decide (520 < x.length)
def chkL (ks js : BL) : Nat := if longB ks = true ∨ longB js = true then 14 else if 100 < ks.length + js.length then 13 else 0
def donL (ks js : BL) (e : Nat) : BL × BL × Nat :=
  if (if e = 0 then chkL ks js else e) = 0 then (ks, js, 0) else ([], [], if e = 0 then chkL ks js else e)
def doL (op : Nat) (ks js : BL) : BL × BL × Nat :=
  let m := movL op ks js 0
  if m.1 = true then donL m.2.1 m.2.2.1 m.2.2.2
  else
    let r := redL op m.2.1 m.2.2.2
    if r.1 = true then donL r.2.1 m.2.2.1 r.2.2
    else
      let c := recL op r.2.1 r.2.2
      if c.1 = true then donL c.2.1 m.2.2.1 c.2.2 else ([], [], 10)
def OkN (B : Nat) (ks : BL) : Prop := ks.length ≤ B ∧ ∀ x ∈ ks, x.length ≤ B
theorem OkN.mono {B C : Nat} {ks : BL} (h : OkN B ks) (hbc : B ≤ C) : OkN C ks := ⟨Nat.le_trans h.1 hbc, fun x hx => Nat.le_trans (h.2 x hx) hbc⟩
theorem OkN.nil {B : Nat} : OkN B [] := ⟨Nat.zero_le _, fun x hx => by cases hx⟩
theorem OkN.snoc {B : Nat} {ks : BL} {x : List UInt8} (h : OkN B ks) (hx : x.length ≤ B) : OkN (B + 1) (ks ++ [x]) := by
  refine ⟨by have := h.1; simp; omega, fun y hy => ?_⟩
  rw [List.mem_append] at hy
  rcases hy with hy | hy
  · have := h.2 y hy; omega
  · obtain rfl := List.mem_singleton.1 hy; omega
theorem OkN.take {B : Nat} {ks : BL} (h : OkN B ks) (n : Nat) : OkN B (ks.take n) := ⟨by have := h.1; rw [List.length_take]; omega, fun x hx => h.2 x (List.mem_of_mem_take hx)⟩
theorem OkN.at {B : Nat} {ks : BL} (h : OkN B ks) (i : Nat) : (ks.getD i []).length ≤ B := by
  rw [List.getD_eq_getElem?_getD]
  cases hi : ks[i]? with
  | none => simp
  | some x => exact h.2 x (List.mem_of_getElem? hi)
theorem OkN.erase {B : Nat} {ks : BL} (h : OkN B ks) (n : Nat) : OkN B (ks.eraseIdx n) := ⟨by have := h.1; have := List.length_eraseIdx_le ks n; omega, fun x hx => h.2 x (List.mem_of_mem_eraseIdx hx)⟩
theorem pop_ok {B : Nat} {ks k1 : BL} {e e1 : Nat} {x : List UInt8} (h : OkN B ks) (hp : popL ks e = (x, k1, e1)) : OkN B k1 ∧ x.length ≤ B := by
  unfold popL at hp
  split at hp
  · obtain ⟨rfl, rfl, _⟩ : lastB ks = x ∧ ks.take (ks.length - 1) = k1 ∧ 0 = e1 := by simpa using hp
    exact ⟨h.take _, h.at _⟩
  · obtain ⟨rfl, rfl, _⟩ : [] = x ∧ ks = k1 ∧ _ = e1 := by simpa using hp
    exact ⟨h, Nat.zero_le _⟩
theorem map_ok {B n : Nat} {ks : BL} (h : OkN B ks) : ∀ (ps : List Nat), ∀ x ∈ ps.map (fun p => (ks.drop n).getD p []), x.length ≤ B := by
  intro ps x hx
  obtain ⟨p, _, rfl⟩ := List.mem_map.1 hx
  rw [List.getD_eq_getElem?_getD]
  cases hi : (ks.drop n)[p]? with
  | none => simp
  | some y => exact h.2 y (List.mem_of_mem_drop (List.mem_of_getElem? hi))
theorem shuf_ok {B n : Nat} {ps : List Nat} {ks k1 : BL} {e e1 : Nat} (h : OkN B ks) (hl : ps.length ≤ 6) (hp : shufL n ps ks e = (k1, e1)) : OkN (B + 6) k1 := by
  unfold shufL at hp
  split at hp
  · obtain ⟨rfl, _⟩ := Prod.mk.inj hp
    refine ⟨?_, fun x hx => ?_⟩
    · have := h.1; simp; omega
    · rw [List.mem_append] at hx
      rcases hx with hx | hx
      · have := h.2 x (List.mem_of_mem_take hx); omega
      · have := map_ok h ps x hx; omega
  · obtain ⟨rfl, _⟩ := Prod.mk.inj hp
    exact h.mono (by omega)
theorem deepR_ok {B : Nat} {r : Bool} {n : Int} {ks : BL} (h : OkN B ks) : OkN (B + 1) (deepR r n ks).1 := by
  unfold deepR
  split
  · exact h.mono (by omega)
  · refine OkN.snoc ?_ (h.at _)
    split
    · exact h.erase _
    · exact h
theorem deep_ok {B : Nat} {r : Bool} {ks k1 : BL} {e e1 : Nat} (h : OkN B ks) (hp : deepL r ks e = (k1, e1)) : OkN (B + 1) k1 := by
  obtain ⟨x, k2, e2, h1⟩ : ∃ a b c, popL ks e = (a, b, c) := ⟨_, _, _, rfl⟩
  have h2 := pop_ok h h1
  unfold deepL at hp
  rw [h1] at hp
  split at hp
  · have := deepR_ok (r := r) (n := (readL x 4 e2).1) h2.1
    rw [hp] at this
    exact this
  · obtain ⟨rfl, _⟩ := Prod.mk.inj hp
    exact h2.1.mono (by omega)
theorem join_ok {B : Nat} {ks k1 : BL} {e e1 : Nat} (h : OkN B ks) (hp : joinL ks e = (k1, e1)) : OkN (2 * B + 1) k1 := by
  unfold joinL at hp
  split at hp
  · obtain ⟨rfl, _⟩ := Prod.mk.inj hp
    refine OkN.snoc ((h.take _).mono (by omega)) ?_
    have h1 := h.at (ks.length - 2); have h2 := h.at (ks.length - 1)
    rw [List.length_append]; omega
  · obtain ⟨rfl, _⟩ := Prod.mk.inj hp
    exact h.mono (by omega)
theorem alik_ok {B : Nat} {ks k1 : BL} {b : Bool} {e e1 : Nat} (h : OkN B ks) (hp : alikL ks e = (b, k1, e1)) : OkN B k1 := by
  unfold alikL at hp
  split at hp
  · obtain ⟨_, rfl, _⟩ : _ ∧ ks.take (ks.length - 2) = k1 ∧ 0 = e1 := by simpa using hp
    exact h.take _
  · obtain ⟨_, rfl, _⟩ : _ ∧ ks = k1 ∧ _ = e1 := by simpa using hp
    exact h
theorem btl32 (f : Nat → Nat) : (btl 32 f).length = 32 := btl_len 32 f
theorem hash_ok {B : Nat} {f : List UInt8 → List UInt8} (hf : ∀ x, (f x).length = 32) {ks k1 : BL} {e e1 : Nat} (hB : 32 ≤ B) (h : OkN B ks) (hp : hashL f ks e = (k1, e1)) : OkN (B + 1) k1 := by
  unfold hashL at hp
  split at hp
  · obtain ⟨rfl, _⟩ := Prod.mk.inj hp
    exact OkN.snoc (h.take _) (by rw [hf]; exact hB)
  · obtain ⟨rfl, _⟩ := Prod.mk.inj hp
    exact h.mono (by omega)
theorem back_ok {B : Nat} {ks js k1 j1 : BL} {e e1 : Nat} (h : OkN B ks) (hj : OkN B js) (hp : backL ks js e = (k1, j1, e1)) : OkN (B + 1) k1 ∧ OkN B j1 := by
  unfold backL at hp
  split at hp
  · obtain ⟨rfl, rfl, _⟩ : ks = k1 ∧ js = j1 ∧ _ = e1 := by simpa using hp
    exact ⟨h.mono (by omega), hj⟩
  · obtain ⟨rfl, rfl, _⟩ : ks ++ [lastB js] = k1 ∧ js.take (js.length - 1) = j1 ∧ _ = e1 := by simpa using hp
    exact ⟨h.snoc (hj.at _), hj.take _⟩
theorem opsR_ok {B : Nat} : ∀ (n : Nat) {ks k1 : BL} {e e1 : Nat} {zs : List Int}, OkN B ks → opsR n ks e = (zs, k1, e1) → OkN B k1 ∧ zs.length = n ∧ ∀ z ∈ zs, -2147483648 < z ∧ z < 2147483648
  | 0, ks, k1, e, e1, zs, h, hp => by
    obtain ⟨rfl, rfl, _⟩ : [] = zs ∧ ks = k1 ∧ e = e1 := by simpa [opsR] using hp
    exact ⟨h, rfl, fun z hz => by cases hz⟩
  | n + 1, ks, k1, e, e1, zs, h, hp => by
    obtain ⟨x, k2, e2, h1⟩ : ∃ a b c, popL ks e = (a, b, c) := ⟨_, _, _, rfl⟩
    obtain ⟨v, e3, h2⟩ : ∃ a b, readL x 4 e2 = (a, b) := ⟨_, _, rfl⟩
    obtain ⟨ys, k3, e4, h3⟩ : ∃ a b c, opsR n k2 e3 = (a, b, c) := ⟨_, _, _, rfl⟩
    have h4 := pop_ok h h1
    have h5 := opsR_ok n h4.1 h3
    unfold opsR at hp
    simp only [h1, h2, h3, Prod.mk.injEq] at hp
    obtain ⟨rfl, rfl, _⟩ := hp
    refine ⟨h5.1, by simp [h5.2.1], fun z hz => ?_⟩
    rw [List.mem_append] at hz
    rcases hz with hz | hz
    · exact h5.2.2 z hz
    · obtain rfl := List.mem_singleton.1 hz
      unfold readL at h2
      split at h2
      · exact dec4 h2
      · obtain ⟨rfl, _⟩ := Prod.mk.inj h2; omega
theorem ops_ok {B n : Nat} {ks k1 : BL} {e e1 : Nat} {zs : List Int} (h : OkN B ks) (hp : opsL n ks e = (zs, k1, e1)) : OkN B k1 ∧ zs.length = n ∧ ∀ z ∈ zs, -2147483648 < z ∧ z < 2147483648 := by
  unfold opsL at hp
  split at hp
  · exact opsR_ok n h hp
  · obtain ⟨rfl, rfl, _⟩ : List.replicate n 0 = zs ∧ ks = k1 ∧ _ = e1 := by simpa using hp
    exact ⟨h, by simp, fun z hz => by rw [List.eq_of_mem_replicate hz]; omega⟩
theorem inj3 {α β γ : Type} {a a' : α} {b b' : β} {c c' : γ} (h : (a, b, c) = (a', b', c')) : a = a' ∧ b = b' ∧ c = c' := by simpa using h
theorem inj4 {α β γ δ : Type} {a a' : α} {b b' : β} {c c' : γ} {d d' : δ} (h : (a, b, c, d) = (a', b', c', d')) : a = a' ∧ b = b' ∧ c = c' ∧ d = d' := by simpa using h
theorem getD_of {ks : BL} {i : Nat} {y : List UInt8} (h : ks[i]? = some y) : ks.getD i [] = y := by rw [List.getD_eq_getElem?_getD, h]; rfl
theorem flagL_len (b : Bool) : (flagL b).length ≤ 1 := by cases b <;> decide
theorem mem_main {vs us xs : List Value} {ks js ts : BL} {p : Value × List UInt8} (hl : vs.length = ks.length) (h : p ∈ vs.zip ks) : p ∈ (vs ++ us ++ xs).zip (ks ++ js ++ ts) := by
  rw [List.append_assoc, List.append_assoc, List.zip_append hl]; exact List.mem_append_left _ h
theorem mem_alt {vs us xs : List Value} {ks js ts : BL} {p : Value × List UInt8} (hl : vs.length = ks.length) (hu : us.length = js.length) (h : p ∈ us.zip js) : p ∈ (vs ++ us ++ xs).zip (ks ++ js ++ ts) := by
  rw [zip3 hl hu]; exact List.mem_append_left _ (List.mem_append_right _ h)
theorem mem_last3 {vs us xs : List Value} {ks js ts : BL} {v : Value} {x : List UInt8} (h : (vs ++ us ++ (xs ++ [v])).length = (ks ++ js ++ (ts ++ [x])).length) : (v, x) ∈ (vs ++ us ++ (xs ++ [v])).zip (ks ++ js ++ (ts ++ [x])) := by
  have h1 : (vs ++ us ++ xs).length = (ks ++ js ++ ts).length := by simp only [List.length_append, List.length_cons, List.length_nil] at h ⊢; omega
  rw [← List.append_assoc (vs ++ us), ← List.append_assoc (ks ++ js), List.zip_append h1]
  exact List.mem_append_right _ (List.mem_singleton.2 rfl)
section
variable {a : Act} {w : World} {n : Nat} {w0 : Bs} {fs : List Sl} {bs : List Bl} {vs us xs : List Value} {ks js ts : BL} {G : Nat → Prop}
theorem St.poolAt (hs : St n w0 fs bs a w) (k : Nat) (h : w0.S[k]? = some (true, .bysO G (vs ++ us ++ xs) (ks ++ js ++ ts))) (hl : vs.length = ks.length) {i : Nat} {y : List UInt8} (hy : ks[i]? = some y) : ∃ ad c, vs[i]? = some (.slice ad y.length c) := by
  have hi := (List.getElem?_eq_some_iff.1 hy).1
  have hv : vs[i]? = some vs[i] := by simp [hl, hi]
  obtain ⟨ad, c, e⟩ := byv_slice (hs.itemZ h (mem_main hl (zip_get hv hy)))
  exact ⟨ad, c, by rw [hv, e]⟩
theorem St.poolAtA (hs : St n w0 fs bs a w) (k : Nat) (h : w0.S[k]? = some (true, .bysO G (vs ++ us ++ xs) (ks ++ js ++ ts))) (hl : vs.length = ks.length) (hu : us.length = js.length) {i : Nat} {y : List UInt8} (hy : js[i]? = some y) : ∃ ad c, us[i]? = some (.slice ad y.length c) := by
  have hi := (List.getElem?_eq_some_iff.1 hy).1
  have hv : us[i]? = some us[i] := by simp [hu, hi]
  obtain ⟨ad, c, e⟩ := byv_slice (hs.itemZ h (mem_alt hl hu (zip_get hv hy)))
  exact ⟨ad, c, by rw [hv, e]⟩
theorem St.pushB (hs : St n w0 fs bs a w) (k : Nat) {v : Value} {x : List UInt8} (hl : vs.length = ks.length) (hu : us.length = js.length) (h : w0.S[k]? = some (true, .bysO G ((vs ++ us ++ xs) ++ [v]) ((ks ++ js ++ ts) ++ [x]))) :
    St n (w0.withS (w0.S.set k (true, .bysO G ((vs ++ [v]) ++ us ++ xs) ((ks ++ [x]) ++ js ++ ts)))) fs bs a w := by
  have h0 := hs.bLen k h
  have h1 : (vs ++ us ++ xs).length = (ks ++ js ++ ts).length := by simp only [List.length_append, List.length_cons, List.length_nil] at h0 ⊢; omega
  refine hs.reB k h (by simp only [List.length_append, List.length_cons, List.length_nil] at h1 ⊢; omega) fun p hp => ?_
  rw [zip_snoc h1, zip3 hl hu]
  rw [zip3 (by simp [hl]) hu, zip_snoc hl] at hp
  simp only [List.mem_append] at hp ⊢
  rcases hp with ((h | h) | h) | h
  · exact .inl (.inl (.inl h))
  · exact .inr h
  · exact .inl (.inl (.inr h))
  · exact .inl (.inr h)
theorem St.popB (hs : St n w0 fs bs a w) (k : Nat) {v : Value} {x : List UInt8} {i j : Nat} (hl : vs.length = ks.length) (hu : us.length = js.length) (hv : vs[i]? = some v) (hx : ks[i]? = some x) (h : w0.S[k]? = some (true, .bysO G (vs ++ us ++ xs) (ks ++ js ++ ts))) :
    St n (w0.withS (w0.S.set k (true, .bysO G (vs.take j ++ us ++ (xs ++ [v])) (ks.take j ++ js ++ (ts ++ [x]))))) fs bs a w := by
  have h0 := hs.bLen k h
  refine hs.reB k h ?_ (zip_sub_left hl hu (by simp [hl]) (fun p hp => .inl (zip_take _ p hp)) fun p hp => ?_)
  · simp only [List.length_append, List.length_cons, List.length_nil, List.length_take] at h0 ⊢; omega
  · have h1 : xs.length = ts.length := by simp only [List.length_append] at h0; omega
    rw [zip_snoc h1, List.mem_append] at hp
    rcases hp with hp | hp
    · exact .inr (.inr hp)
    · obtain rfl := List.mem_singleton.1 hp
      exact .inl (zip_get hv hx)
theorem St.nilB (hs : St n w0 fs bs a w) (k : Nat) (h : w0.S[k]? = some (true, .bysO G (vs ++ us ++ xs) (ks ++ js ++ ts))) :
    St n (w0.withS (w0.S.set k (true, .bysO G (vs ++ us ++ (xs ++ [.slice none ([] : List UInt8).length 0])) (ks ++ js ++ (ts ++ [[]]))))) fs bs a w :=
  hs.conS k h (fun Z hz => ⟨by
    rw [← List.append_assoc (vs ++ us), ← List.append_assoc (ks ++ js)]
    exact bysv_snoc hz.1 byv_nil, hz.2⟩) (fun g hg => hg)
theorem St.cutB (hs : St n w0 fs bs a w) (k : Nat) {j : Nat} (hl : vs.length = ks.length) (hu : us.length = js.length) (h : w0.S[k]? = some (true, .bysO G (vs ++ us ++ xs) (ks ++ js ++ ts))) :
    St n (w0.withS (w0.S.set k (true, .bysO G (vs.take j ++ us ++ xs) (ks.take j ++ js ++ ts)))) fs bs a w := by
  have h0 := hs.bLen k h
  refine hs.reB k h ?_ (zip_sub_left hl hu (by simp [hl]) (fun p hp => .inl (zip_take _ p hp)) fun p hp => .inr (.inr hp))
  simp only [List.length_append, List.length_take] at h0 ⊢; omega
theorem St.eraB (hs : St n w0 fs bs a w) (k : Nat) {j : Nat} (hl : vs.length = ks.length) (hu : us.length = js.length) (h : w0.S[k]? = some (true, .bysO G (vs ++ us ++ xs) (ks ++ js ++ ts))) :
    St n (w0.withS (w0.S.set k (true, .bysO G (vs.eraseIdx j ++ us ++ xs) (ks.eraseIdx j ++ js ++ ts)))) fs bs a w := by
  have h0 := hs.bLen k h
  refine hs.reB k h ?_ (zip_sub_left hl hu (by simp [hl, List.length_eraseIdx]) (fun p hp => .inl (zip_erase _ hl p hp)) fun p hp => .inr (.inr hp))
  simp only [List.length_append, List.length_eraseIdx, hl] at h0 ⊢; omega
theorem St.addB (hs : St n w0 fs bs a w) (k : Nat) {v : Value} {x : List UInt8} {i : Nat} (hl : vs.length = ks.length) (hu : us.length = js.length) (hv : vs[i]? = some v) (hx : ks[i]? = some x) (h : w0.S[k]? = some (true, .bysO G (vs ++ us ++ xs) (ks ++ js ++ ts))) :
    St n (w0.withS (w0.S.set k (true, .bysO G (vs ++ us ++ (xs ++ [v])) (ks ++ js ++ (ts ++ [x]))))) fs bs a w := by
  have h1 := hs.popB (j := ks.length) k hl hu hv hx h
  rw [List.take_length, show ks.length = vs.length from hl.symm, List.take_length] at h1
  exact h1
theorem St.dropB (hs : St n w0 fs bs a w) (k : Nat) {zs : List Value} {rs : BL} (hx : xs.length = ts.length) (h : w0.S[k]? = some (true, .bysO G (vs ++ us ++ (xs ++ zs)) (ks ++ js ++ (ts ++ rs)))) (hl : vs.length = ks.length) (hu : us.length = js.length) :
    St n (w0.withS (w0.S.set k (true, .bysO G (vs ++ us ++ xs) (ks ++ js ++ ts)))) fs bs a w := by
  refine hs.reB k h (by simp [hl, hu, hx]) (zip_sub_left hl hu hl (fun p hp => .inl hp) fun p hp => .inr (.inr ?_))
  rw [List.zip_append hx]
  exact List.mem_append_left _ hp
theorem St.xsLen (hs : St n w0 fs bs a w) (k : Nat) {v : Value} {x : List UInt8} (h : w0.S[k]? = some (true, .bysO G (vs ++ us ++ (xs ++ [v])) (ks ++ js ++ (ts ++ [x])))) (hl : vs.length = ks.length) (hu : us.length = js.length) : xs.length = ts.length := by
  have h0 := hs.bLen k h
  simp only [List.length_append, List.length_cons, List.length_nil] at h0
  omega
theorem St.altB (hs : St n w0 fs bs a w) (k : Nat) {v : Value} {x : List UInt8} (hl : vs.length = ks.length) (hu : us.length = js.length) (h : w0.S[k]? = some (true, .bysO G (vs ++ us ++ (xs ++ [v])) (ks ++ js ++ (ts ++ [x])))) :
    St n (w0.withS (w0.S.set k (true, .bysO G (vs ++ (us ++ [v]) ++ xs) (ks ++ (js ++ [x]) ++ ts)))) fs bs a w := by
  have h0 := hs.bLen k h
  have h1 : xs.length = ts.length := by simp only [List.length_append, List.length_cons, List.length_nil] at h0; omega
  refine hs.reB k h (by simp only [List.length_append, List.length_cons, List.length_nil]; omega) fun p hp => ?_
  rw [zip3 hl hu, zip_snoc h1]
  rw [zip3 hl (by simp [hu]), zip_snoc hu] at hp
  simp only [List.mem_append] at hp ⊢
  rcases hp with (h | h | h) | h
  · exact .inl (.inl h)
  · exact .inl (.inr h)
  · exact .inr (.inr h)
  · exact .inr (.inl h)
theorem St.cutA (hs : St n w0 fs bs a w) (k : Nat) {j : Nat} (hl : vs.length = ks.length) (hu : us.length = js.length) (h : w0.S[k]? = some (true, .bysO G (vs ++ us ++ xs) (ks ++ js ++ ts))) :
    St n (w0.withS (w0.S.set k (true, .bysO G (vs ++ us.take j ++ xs) (ks ++ js.take j ++ ts)))) fs bs a w := by
  have h0 := hs.bLen k h
  refine hs.reB k h (by simp only [List.length_append, List.length_take] at h0 ⊢; omega) fun p hp => ?_
  rw [zip3 hl hu]
  rw [zip3 hl (by simp [hu])] at hp
  simp only [List.mem_append] at hp ⊢
  rcases hp with (h | h) | h
  · exact .inl (.inl h)
  · exact .inl (.inr (zip_take _ p h))
  · exact .inr h
end
theorem BysV.drop {w : World} {Z : Nat → Prop} {vs : List Value} {ks : BL} (h : BysV w Z vs ks) (i : Nat) : BysV w Z (vs.drop i) (ks.drop i) :=
  ⟨by simp [h.1], fun j v y hv hy => h.2 (i + j) v y (by simpa using hv) (by simpa using hy)⟩
section
variable {a : Act} {w : World} {n : Nat} {w0 : Bs} {fs : List Sl} {bs : List Bl} {vs us xs : List Value} {ks js ts : BL} {G : Nat → Prop}
theorem St.mainY (hs : St n w0 fs bs a w) (k : Nat) (h : w0.S[k]? = some (true, .bysO G (vs ++ us ++ xs) (ks ++ js ++ ts))) (hl : vs.length = ks.length) : BysV w (fun _ => True) vs ks := by
  have h1 := hs.rowB (.inl h)
  refine bysv_iff.2 ⟨hl, fun p hp => (bysv_iff.1 h1).2 p (mem_main hl hp)⟩
theorem St.mainOne (hs : St n w0 fs bs a w) (k : Nat) (h : w0.S[k]? = some (true, .bysO G (vs ++ us ++ xs) (ks ++ js ++ ts))) (hl : vs.length = ks.length) : ∀ u ∈ vs, u.oneCell' = true := bys_one (hs.mainY k h hl)
end
def intL (ps : List Nat) : List Value := ps.map fun (p : Nat) => .int .i64 (p : Int)
theorem intL_get {ps : List Nat} {i p : Nat} (h : ps[i]? = some p) : ldv false 1 (intL ps) i = some (.int .i64 (p : Int)) := by simp [ldv, intL, h]
def pickL (dk : BL) (ps : List Nat) : BL := ps.map fun p => dk.getD p []
theorem pickL_snoc {k0 dk : BL} {ps : List Nat} {i p : Nat} {y : List UInt8} (hp : ps[i]? = some p) (hy : dk[p]? = some y) : (k0 ++ pickL dk (ps.take i)) ++ [y] = k0 ++ pickL dk (ps.take (i + 1)) := by
  rw [List.append_assoc, List.take_add_one, hp]
  simp [pickL, ← getD_of hy]
theorem pick_ok {ks : BL} {n i : Nat} {ps : List Nat} (h : OkN 7000 ks) (hl : ps.length ≤ 6) : OkN 8000 (ks.take (ks.length - n) ++ pickL (ks.drop (ks.length - n)) (ps.take i)) := by
  refine ⟨?_, fun x hx => ?_⟩
  · have := h.1; simp [pickL]; omega
  · rw [List.mem_append] at hx
    rcases hx with hx | hx
    · have := h.2 x (List.mem_of_mem_take hx); omega
    · have := map_ok h _ x hx; omega
theorem OkN.drop {B : Nat} {ks : BL} (h : OkN B ks) (n : Nat) : OkN B (ks.drop n) := ⟨by have := h.1; rw [List.length_drop]; omega, fun x hx => h.2 x (List.mem_of_mem_drop hx)⟩
theorem shuf2 {ks k1 : BL} {e1 : Nat} {n : Nat} (h : n ≤ ks.length) (hp : shufL n [] ks 0 = (k1, e1)) : k1 = ks.take (ks.length - n) ∧ e1 = 0 := by
  unfold shufL at hp
  rw [if_pos (by unfold needE; rw [if_neg (by omega)])] at hp
  obtain ⟨rfl, rfl⟩ := Prod.mk.inj hp
  simp
theorem deep_no {r : Bool} {ks k1 : BL} {er e1 e2 : Nat} {x : List UInt8} {z : Int} (h : popL ks er = (x, k1, e1)) (hz : readL x 4 e1 = (z, e2)) (he : ¬ e2 = 0) : deepL r ks er = (k1, e2) := by
  unfold deepL
  simp only [h, hz, if_neg he]
theorem deep_far {r : Bool} {ks k1 : BL} {er e1 : Nat} {x : List UInt8} {z : Int} (h : popL ks er = (x, k1, e1)) (hz : readL x 4 e1 = (z, 0)) (hc : z < 0 ∨ (k1.length : Int) ≤ z) : deepL r ks er = (k1, 12) := by
  unfold deepL
  simp only [h, hz, if_pos]
  unfold deepR
  rw [if_pos hc]
theorem deep_at {r : Bool} {ks k1 : BL} {er e1 d : Nat} {x : List UInt8} (h : popL ks er = (x, k1, e1)) (hz : readL x 4 e1 = ((d : Int), 0)) (hd : d < k1.length) : deepL r ks er = ((if r = true then k1.eraseIdx (k1.length - 1 - d) else k1) ++ [k1.getD (k1.length - 1 - d) []], 0) := by
  unfold deepL
  simp only [h, hz, if_pos]
  unfold deepR
  rw [if_neg (by omega), Int.toNat_natCast]
theorem pop_at {ks : BL} (h : 1 ≤ ks.length) : popL ks 0 = (lastB ks, ks.take (ks.length - 1), 0) := by
  unfold popL
  rw [if_pos (by unfold needE; rw [if_neg (by omega)])]
theorem opsR_step {n : Nat} {ks k1 : BL} {er e1 e2 : Nat} {x : List UInt8} {z : Int} (h : popL ks er = (x, k1, e1)) (hz : readL x 4 e1 = (z, e2)) : opsR (n + 1) ks er = ((opsR n k1 e2).1 ++ [z], (opsR n k1 e2).2) := by
  rw [opsR]
  simp only [h, hz]
theorem ops_end {n : Nat} {ks kk : BL} {er ee : Nat} {zs : List Int} (h : needE ks.length n er = 0) (ho : opsR n ks 0 = ((opsR 0 kk ee).1 ++ zs, (opsR 0 kk ee).2)) : opsL n ks er = (zs, kk, ee) := by
  unfold opsL
  rw [if_pos h, ho]
  rfl
theorem ifd_no {ks : BL} {er : Nat} (h : ¬ needE ks.length 1 er = 0) : ifdL ks er = (ks, needE ks.length 1 er) := if_neg fun h2 => h h2.1
theorem ifd_un {ks : BL} {er : Nat} {y : List UInt8} (hy : lastB ks = y) (h : truthL y = false) : ifdL ks er = (ks, needE ks.length 1 er) := if_neg fun h2 => by rw [hy, h] at h2; exact absurd h2.2 (by decide)
theorem ifd_yes {ks : BL} {er : Nat} {y : List UInt8} (h0 : needE ks.length 1 er = 0) (hy : lastB ks = y) (h : truthL y = true) : ifdL ks er = (ks ++ [y], 0) := by
  unfold ifdL
  rw [hy, if_pos ⟨h0, h⟩]
theorem siz_no {ks : BL} {er : Nat} (h : ¬ needE ks.length 1 er = 0) : sizL ks er = (ks, needE ks.length 1 er) := if_neg h
theorem siz_yes {ks : BL} {er : Nat} {y : List UInt8} (h0 : needE ks.length 1 er = 0) (hy : lastB ks = y) : sizL ks er = (ks ++ [enc ((y.length : Nat) : Int)], 0) := by
  unfold sizL
  rw [hy, if_pos h0]
theorem wth_yes {x y z : Int} (h : y ≤ x) : wthB [x, y, z] = decide (x < z) := by
  show (decide (y ≤ x) && decide (x < z)) = decide (x < z)
  rw [decide_eq_true h]; rfl
theorem wth_no {x y z : Int} (h : ¬ y ≤ x) : wthB [x, y, z] = false := by
  show (decide (y ≤ x) && decide (x < z)) = false
  rw [decide_eq_false h]; rfl
theorem unL_bd {op : Nat} {x z : Int} {q : Bool} (h : -2147483648 < x ∧ x < 2147483648) (hp : unL op x = (z, q)) : -4294967296 < z ∧ z < 4294967296 := by
  unfold unL truI at hp
  (repeat' split at hp) <;> (obtain ⟨rfl, _⟩ := Prod.mk.inj hp; omega)
theorem binL_bd {op : Nat} {x y z : Int} {q : Bool} (h : -2147483648 < x ∧ x < 2147483648) (h2 : -2147483648 < y ∧ y < 2147483648) (hp : binL op x y = (z, q)) : -4294967296 < z ∧ z < 4294967296 := by
  unfold binL truI at hp
  (repeat' split at hp) <;> (obtain ⟨rfl, _⟩ := Prod.mk.inj hp; omega)
theorem St.altY {a : Act} {w : World} {n : Nat} {w0 : Bs} {fs : List Sl} {bs : List Bl} {vs us xs : List Value} {ks js ts : BL} {G : Nat → Prop} (hs : St n w0 fs bs a w) (k : Nat) (h : w0.S[k]? = some (true, .bysO G (vs ++ us ++ xs) (ks ++ js ++ ts))) (hl : vs.length = ks.length) (hu : us.length = js.length) : BysV w (fun _ => True) us js :=
  bysv_iff.2 ⟨hu, fun p hp => (bysv_iff.1 (hs.rowB (.inl h))).2 p (mem_alt hl hu hp)⟩
theorem St.merge3 {a : Act} {w : World} {n : Nat} {w0 : Bs} {fs : List Sl} {bs : List Bl} {vs us : List Value} {ks js : BL} {G H : Nat → Prop} (hs : St n w0 fs bs a w) (k kp : Nat) (hkk : k ≠ kp) (h : w0.S[k]? = some (true, .bysO G vs ks)) (hp : w0.S[kp]? = some (true, .bysO H us js)) :
    St n (w0.withS ((w0.S.set k (true, .bysO (GV G H) (vs ++ us ++ []) (ks ++ js ++ []))).set kp (false, .bys [] []))) fs bs a w := by
  rw [List.append_nil, List.append_nil]
  exact hs.mergeB k kp hkk h hp
def popS (ks js : BL) : List UInt8 × BL × BL × Nat := if (popL ks 0).2.2 = 0 then ((popL ks 0).1, (popL ks 0).2.1, js, 0) else ((popL ks 0).1, [], [], (popL ks 0).2.2)
def popN (most : Int) (ks js : BL) : Int × BL × BL × Nat :=
  if (readL (popL ks 0).1 most (popL ks 0).2.2).2 = 0 then ((readL (popL ks 0).1 most (popL ks 0).2.2).1, (popL ks 0).2.1, js, 0) else (0, [], [], (readL (popL ks 0).1 most (popL ks 0).2.2).2)
def pushS (b : List UInt8) (ks js : BL) : BL × BL × Nat := donL (ks ++ [b]) js 0
theorem mov_ok {B op : Nat} {ks js k1 j1 : BL} {e e1 : Nat} {q : Bool} (h : OkN B ks) (hj : OkN B js) (hp : movL op ks js e = (q, k1, j1, e1)) : OkN (B + 6) k1 ∧ OkN (B + 6) j1 := by
  have hs : ∀ n ps, ps.length ≤ 6 → OkN (B + 6) (shufL n ps ks e).1 := fun n ps hl => shuf_ok (e1 := (shufL n ps ks e).2) h hl rfl
  have hpo := pop_ok (x := (popL ks e).1) (k1 := (popL ks e).2.1) (e1 := (popL ks e).2.2) h rfl
  have hb := back_ok (k1 := (backL ks js e).1) (j1 := (backL ks js e).2.1) (e1 := (backL ks js e).2.2) h hj rfl
  unfold movL at hp
  by_cases c : op = 97
  · rw [if_pos c] at hp
    obtain ⟨_, rfl, rfl, _⟩ := inj4 (show (_, _, _, _) = (_, _, _, _) from hp)
    exact ⟨h.mono (Nat.le_add_right _ _), (hj.mono (Nat.le_add_right _ _))⟩
  rw [if_neg c] at hp
  clear c
  by_cases c : op = 107
  · rw [if_pos c] at hp
    obtain ⟨_, rfl, rfl, _⟩ := inj4 (show (_, _, _, _) = (_, _, _, _) from hp)
    exact ⟨hpo.1.mono (Nat.le_add_right _ _), (hj.snoc hpo.2).mono (Nat.add_le_add_left (by decide) _)⟩
  rw [if_neg c] at hp
  clear c
  by_cases c : op = 108
  · rw [if_pos c] at hp
    obtain ⟨_, rfl, rfl, _⟩ := inj4 (show (_, _, _, _) = (_, _, _, _) from hp)
    exact ⟨hb.1.mono (Nat.add_le_add_left (by decide) _), hb.2.mono (Nat.le_add_right _ _)⟩
  rw [if_neg c] at hp
  clear c
  by_cases c : op = 109
  · rw [if_pos c] at hp
    obtain ⟨_, rfl, rfl, _⟩ := inj4 (show (_, _, _, _) = (_, _, _, _) from hp)
    exact ⟨hs 2 [] (by decide), (hj.mono (Nat.le_add_right _ _))⟩
  rw [if_neg c] at hp
  clear c
  by_cases c : op = 110
  · rw [if_pos c] at hp
    obtain ⟨_, rfl, rfl, _⟩ := inj4 (show (_, _, _, _) = (_, _, _, _) from hp)
    exact ⟨hs 2 [0, 1, 0, 1] (by decide), (hj.mono (Nat.le_add_right _ _))⟩
  rw [if_neg c] at hp
  clear c
  by_cases c : op = 111
  · rw [if_pos c] at hp
    obtain ⟨_, rfl, rfl, _⟩ := inj4 (show (_, _, _, _) = (_, _, _, _) from hp)
    exact ⟨hs 3 [0, 1, 2, 0, 1, 2] (by decide), (hj.mono (Nat.le_add_right _ _))⟩
  rw [if_neg c] at hp
  clear c
  by_cases c : op = 112
  · rw [if_pos c] at hp
    obtain ⟨_, rfl, rfl, _⟩ := inj4 (show (_, _, _, _) = (_, _, _, _) from hp)
    exact ⟨hs 4 [0, 1, 2, 3, 0, 1] (by decide), (hj.mono (Nat.le_add_right _ _))⟩
  rw [if_neg c] at hp
  clear c
  by_cases c : op = 113
  · rw [if_pos c] at hp
    obtain ⟨_, rfl, rfl, _⟩ := inj4 (show (_, _, _, _) = (_, _, _, _) from hp)
    exact ⟨hs 6 [2, 3, 4, 5, 0, 1] (by decide), (hj.mono (Nat.le_add_right _ _))⟩
  rw [if_neg c] at hp
  clear c
  by_cases c : op = 114
  · rw [if_pos c] at hp
    obtain ⟨_, rfl, rfl, _⟩ := inj4 (show (_, _, _, _) = (_, _, _, _) from hp)
    exact ⟨hs 4 [2, 3, 0, 1] (by decide), (hj.mono (Nat.le_add_right _ _))⟩
  rw [if_neg c] at hp
  clear c
  by_cases c : op = 117
  · rw [if_pos c] at hp
    obtain ⟨_, rfl, rfl, _⟩ := inj4 (show (_, _, _, _) = (_, _, _, _) from hp)
    exact ⟨hs 1 [] (by decide), (hj.mono (Nat.le_add_right _ _))⟩
  rw [if_neg c] at hp
  clear c
  by_cases c : op = 118
  · rw [if_pos c] at hp
    obtain ⟨_, rfl, rfl, _⟩ := inj4 (show (_, _, _, _) = (_, _, _, _) from hp)
    exact ⟨hs 1 [0, 0] (by decide), (hj.mono (Nat.le_add_right _ _))⟩
  rw [if_neg c] at hp
  clear c
  by_cases c : op = 119
  · rw [if_pos c] at hp
    obtain ⟨_, rfl, rfl, _⟩ := inj4 (show (_, _, _, _) = (_, _, _, _) from hp)
    exact ⟨hs 2 [1] (by decide), (hj.mono (Nat.le_add_right _ _))⟩
  rw [if_neg c] at hp
  clear c
  by_cases c : op = 120
  · rw [if_pos c] at hp
    obtain ⟨_, rfl, rfl, _⟩ := inj4 (show (_, _, _, _) = (_, _, _, _) from hp)
    exact ⟨hs 2 [0, 1, 0] (by decide), (hj.mono (Nat.le_add_right _ _))⟩
  rw [if_neg c] at hp
  clear c
  by_cases c : op = 123
  · rw [if_pos c] at hp
    obtain ⟨_, rfl, rfl, _⟩ := inj4 (show (_, _, _, _) = (_, _, _, _) from hp)
    exact ⟨hs 3 [1, 2, 0] (by decide), (hj.mono (Nat.le_add_right _ _))⟩
  rw [if_neg c] at hp
  clear c
  by_cases c : op = 124
  · rw [if_pos c] at hp
    obtain ⟨_, rfl, rfl, _⟩ := inj4 (show (_, _, _, _) = (_, _, _, _) from hp)
    exact ⟨hs 2 [1, 0] (by decide), (hj.mono (Nat.le_add_right _ _))⟩
  rw [if_neg c] at hp
  clear c
  by_cases c : op = 125
  · rw [if_pos c] at hp
    obtain ⟨_, rfl, rfl, _⟩ := inj4 (show (_, _, _, _) = (_, _, _, _) from hp)
    exact ⟨hs 2 [1, 0, 1] (by decide), (hj.mono (Nat.le_add_right _ _))⟩
  rw [if_neg c] at hp
  clear c
  obtain ⟨_, rfl, rfl, _⟩ := inj4 (show (_, _, _, _) = (_, _, _, _) from hp)
  exact ⟨h.mono (Nat.le_add_right _ _), (hj.mono (Nat.le_add_right _ _))⟩
theorem red_ok {B op : Nat} {ks k1 : BL} {e e1 : Nat} {q : Bool} (hB : 32 ≤ B) (hB2 : B ≤ 8000) (h : OkN B ks) (hp : redL op ks e = (q, k1, e1)) : OkN (2 * B + 1) k1 := by
  have hpo := pop_ok (x := (popL ks e).1) (k1 := (popL ks e).2.1) (e1 := (popL ks e).2.2) h rfl
  have hd := fun r => deep_ok (r := r) (k1 := (deepL r ks e).1) (e1 := (deepL r ks e).2) h rfl
  have hj := join_ok (k1 := (joinL ks e).1) (e1 := (joinL ks e).2) h rfl
  have ha := alik_ok (b := (alikL ks e).1) (k1 := (alikL ks e).2.1) (e1 := (alikL ks e).2.2) h rfl
  have hh1 := hash_ok (f := shaV) (fun _ => btl32 _) (k1 := (hashL shaV ks e).1) (e1 := (hashL shaV ks e).2) hB h rfl
  have hh2 := hash_ok (f := dblV) (fun _ => btl32 _) (k1 := (hashL dblV ks e).1) (e1 := (hashL dblV ks e).2) hB h rfl
  have hen : ∀ n : Nat, n ≤ 8000 → (enc (n : Int)).length ≤ B := fun n hn => Nat.le_trans (enc_len (by omega) (by omega)) (by omega)
  have hif : OkN (B + 1) (ifdL ks e).1 := by
    unfold ifdL
    split
    · exact h.snoc (h.at _)
    · exact h.mono (by omega)
  have hsi : OkN (B + 1) (sizL ks e).1 := by
    unfold sizL
    split
    · exact h.snoc (hen _ (Nat.le_trans (h.at _) hB2))
    · exact h.mono (by omega)
  unfold redL at hp
  by_cases c : op = 121
  · rw [if_pos c] at hp
    obtain ⟨_, rfl, _⟩ := inj3 (show (_, _, _) = (_, _, _) from hp)
    exact (hd false).mono (by omega)
  rw [if_neg c] at hp
  clear c
  by_cases c : op = 122
  · rw [if_pos c] at hp
    obtain ⟨_, rfl, _⟩ := inj3 (show (_, _, _) = (_, _, _) from hp)
    exact (hd true).mono (by omega)
  rw [if_neg c] at hp
  clear c
  by_cases c : op = 105
  · rw [if_pos c] at hp
    obtain ⟨_, rfl, _⟩ := inj3 (show (_, _, _) = (_, _, _) from hp)
    exact hpo.1.mono (by omega)
  rw [if_neg c] at hp
  clear c
  by_cases c : op = 115
  · rw [if_pos c] at hp
    obtain ⟨_, rfl, _⟩ := inj3 (show (_, _, _) = (_, _, _) from hp)
    exact hif.mono (by omega)
  rw [if_neg c] at hp
  clear c
  by_cases c : op = 116
  · rw [if_pos c] at hp
    obtain ⟨_, rfl, _⟩ := inj3 (show (_, _, _) = (_, _, _) from hp)
    exact (h.snoc (hen _ (Nat.le_trans h.1 hB2))).mono (by omega)
  rw [if_neg c] at hp
  clear c
  by_cases c : op = 126
  · rw [if_pos c] at hp
    obtain ⟨_, rfl, _⟩ := inj3 (show (_, _, _) = (_, _, _) from hp)
    exact hj
  rw [if_neg c] at hp
  clear c
  by_cases c : op = 130
  · rw [if_pos c] at hp
    obtain ⟨_, rfl, _⟩ := inj3 (show (_, _, _) = (_, _, _) from hp)
    exact hsi.mono (by omega)
  rw [if_neg c] at hp
  clear c
  by_cases c : op = 135
  · rw [if_pos c] at hp
    obtain ⟨_, rfl, _⟩ := inj3 (show (_, _, _) = (_, _, _) from hp)
    exact (ha.snoc (Nat.le_trans (flagL_len _) (by omega))).mono (by omega)
  rw [if_neg c] at hp
  clear c
  by_cases c : op = 136
  · rw [if_pos c] at hp
    obtain ⟨_, rfl, _⟩ := inj3 (show (_, _, _) = (_, _, _) from hp)
    exact ha.mono (by omega)
  rw [if_neg c] at hp
  clear c
  by_cases c : op = 168
  · rw [if_pos c] at hp
    obtain ⟨_, rfl, _⟩ := inj3 (show (_, _, _) = (_, _, _) from hp)
    exact hh1.mono (by omega)
  rw [if_neg c] at hp
  clear c
  by_cases c : op = 170
  · rw [if_pos c] at hp
    obtain ⟨_, rfl, _⟩ := inj3 (show (_, _, _) = (_, _, _) from hp)
    exact hh2.mono (by omega)
  rw [if_neg c] at hp
  clear c
  obtain ⟨_, rfl, _⟩ := inj3 (show (_, _, _) = (_, _, _) from hp)
  exact h.mono (by omega)
theorem rec_ok {B op : Nat} {ks k1 : BL} {e e1 : Nat} {q : Bool} (hB : 32 ≤ B) (h : OkN B ks) (hp : recL op ks e = (q, k1, e1)) : OkN (B + 1) k1 := by
  have ho := fun n => ops_ok (n := n) (zs := (opsL n ks e).1) (k1 := (opsL n ks e).2.1) (e1 := (opsL n ks e).2.2) h rfl
  have hz : ∀ n i, -2147483648 < (opsL n ks e).1.getD i 0 ∧ (opsL n ks e).1.getD i 0 < 2147483648 := fun n i => by
    rw [List.getD_eq_getElem?_getD]
    cases hi : (opsL n ks e).1[i]? with
    | none => simp
    | some z => exact (ho n).2.2 z (List.mem_of_getElem? hi)
  have hen : ∀ z : Int, -4294967296 < z ∧ z < 4294967296 → (enc z).length ≤ B := fun z hz => Nat.le_trans (enc_len (by omega) (by omega)) (by omega)
  have hu := hen _ (unL_bd (op := op) (z := (unL op ((opsL 1 ks e).1.getD 0 0)).1) (q := (unL op ((opsL 1 ks e).1.getD 0 0)).2) (hz 1 0) rfl)
  have hb := hen _ (binL_bd (op := op) (z := (binL op ((opsL 2 ks e).1.getD 0 0) ((opsL 2 ks e).1.getD 1 0)).1) (q := (binL op ((opsL 2 ks e).1.getD 0 0) ((opsL 2 ks e).1.getD 1 0)).2) (hz 2 0) (hz 2 1) rfl)
  unfold recL at hp
  by_cases c : op = 165
  · rw [if_pos c] at hp
    obtain ⟨_, rfl, _⟩ := inj3 (show (_, _, _) = (_, _, _) from hp)
    exact (ho 3).1.snoc (Nat.le_trans (flagL_len _) (by omega))
  rw [if_neg c] at hp
  by_cases c1 : (unL op 0).2 = true
  · rw [if_pos c1] at hp
    obtain ⟨_, rfl, _⟩ := inj3 (show (_, _, _) = (_, _, _) from hp)
    exact (ho 1).1.snoc hu
  rw [if_neg c1] at hp
  by_cases c2 : (binL op 0 0).2 = false
  · rw [if_pos c2] at hp
    obtain ⟨_, rfl, _⟩ := inj3 (show (_, _, _) = (_, _, _) from hp)
    exact h.mono (by omega)
  rw [if_neg c2] at hp
  by_cases c3 : op = 157
  · rw [if_pos c3] at hp
    obtain ⟨_, rfl, _⟩ := inj3 (show (_, _, _) = (_, _, _) from hp)
    exact (ho 2).1.mono (by omega)
  rw [if_neg c3] at hp
  obtain ⟨_, rfl, _⟩ := inj3 (show (_, _, _) = (_, _, _) from hp)
  exact (ho 2).1.snoc hb
theorem len1 {zs : List Int} (h : zs.length = 1) : ∃ z0, zs = [z0] := List.length_eq_one_iff.1 h
theorem len2 {zs : List Int} (h : zs.length = 2) : ∃ z0 z1, zs = [z0, z1] := by
  match zs, h with
  | [a, b], _ => exact ⟨a, b, rfl⟩
theorem len3 {zs : List Int} (h : zs.length = 3) : ∃ z0 z1 z2, zs = [z0, z1, z2] := by
  match zs, h with
  | [a, b, c], _ => exact ⟨a, b, c, rfl⟩
theorem un_neg {P : Program} {x : Int} (h1 : -2147483649 < x) (h2 : x < 2147483649) (w : World) : (Op.unary .neg (.int .i64 x)).run P w = .ok (.int .i64 (-x)) w := by
  have : IntKind.i64.wrap (-x) = -x := by unfold IntKind.wrap; simp [IntKind.signed, IntKind.bits]; omega
  simp [Op.unary, Op.intArith, this]
theorem take_snocB {ks : BL} {i : Nat} {y : List UInt8} (h : ks[i]? = some y) : ks.take i ++ [y] = ks.take (i + 1) := by
  rw [List.take_add_one, h]; rfl
theorem longB_snoc (ks : BL) (y : List UInt8) : longB (ks ++ [y]) = (longB ks || decide (520 < y.length)) := by simp [longB]
theorem longB_yes {ks : BL} {i : Nat} {y : List UInt8} (h : ks[i]? = some y) (hy : 520 < y.length) : longB ks = true := by
  unfold longB
  rw [List.any_eq_true]
  exact ⟨y, List.mem_of_getElem? h, by simpa using hy⟩
theorem longB_go {ks : BL} {i : Nat} {y : List UInt8} (h : ks[i]? = some y) (hy : ¬ 520 < y.length) (h0 : longB (ks.take i) = false) : longB (ks.take (i + 1)) = false := by
  rw [← take_snocB h, longB_snoc, h0, decide_eq_false hy]; rfl
theorem longB_end {ks : BL} {i : Nat} (h : ¬ i < ks.length) (h0 : longB (ks.take i) = false) : longB ks = false := by
  rwa [List.take_of_length_le (by omega)] at h0
theorem need_len {N n e : Nat} (h : needE N n e = 0) : n ≤ N ∧ e = 0 := by
  unfold needE failE at h
  split at h
  · split at h
    · cases h
    · rename_i h0; exact absurd h h0
  · exact ⟨by omega, h⟩
end Go.Proofs.Ytikkhkjndbicgaa

/- The contracts of package bytes. -/
namespace Go.Proofs.Ytikkhkjndbicgaa
open Go.RowKit _root_.Go.Proofs.Try
set_option maxRecDepth 10000
theorem inf_i64_2 : Inf prog 2 (.int .i64 0) 1 8 := inf_of (by kernel_rfl)
theorem inf_i64_3 : Inf prog 3 (.int .i64 0) 1 8 := inf_of (by kernel_rfl)
theorem inf_u8_5 : Inf prog 5 (.int .u8 0) 1 1 := inf_of (by kernel_rfl)
theorem inf_u32_99 : Inf prog 99 (.int .u32 0) 1 4 := inf_of (by kernel_rfl)
theorem bequal_c (a1 : Option Addr) (nl c1 : Nat) (l : List UInt8) (a2 : Option Addr) (nk c2 : Nat) (k : List UInt8) (q : Bool) (hq : decide (l = k) = q) (w0 : World) (Z : Nat → Prop) (hl : ByV w0 Z (.slice a1 nl c1) l) (hk : ByV w0 Z (.slice a2 nk c2) k): Calls prog 67 #[.slice a1 nl c1, .slice a2 nk c2] w0 fun e w' => Ret w0 Z (ρ := Unit) (fun r => .bool q) (fun r => []) e w' := by
 obtain rfl := byv_len hl
 obtain rfl := byv_len hk
 refine enterS (n := 10) (args := [.slice a1 l.length c1, .slice a2 k.length c2]) (S := [(true, cL a1 l.length c1 (bcs l)), (true, cL a2 k.length c2 (bcs k))]) (Z := Z) func67 rfl rfl (Nat.le_of_ble_eq_true rfl) (sokC hl (sokC hk sok0)) rfl fun ac hs => wp_seq (wp_region_lit (asg hs rfl rfl rfl fun ac hs => wpList_nil (then_n (wp_seq (wp_region_lit (mvv hs rfl rfl rfl fun ac hs => stp (op_convBS hs none 0 rfl rfl rfl rfl rfl underlying34 underlying5 underlying9 rfl fun ac hs => mvv hs rfl rfl rfl fun ac hs => stp (op_convBS hs none 1 rfl rfl rfl rfl rfl underlying34 underlying5 underlying9 rfl fun ac hs => bnn hs (.bool (decide (l = k))) rfl rfl rfl rfl (bin_eqlT rfl) fun ac hs => asg hs rfl rfl rfl fun ac hs => ?_))))))))
 refine wpList_nil (then_n (wp_ret ?_))
 exact bodyPost_ret (res1 rfl (rv_t hs rfl)) hs.defers ⟨(), by rw [← hq], hs.bel rfl, okl0⟩
end Go.Proofs.Ytikkhkjndbicgaa

/- SHA-256: the program's, the document's. -/
namespace Go.Proofs.Ytikkhkjndbicgaa
open Go.RowKit _root_.Go.Proofs.Try
set_option maxRecDepth 10000
set_option maxHeartbeats 1000000
theorem rot_c (x n r : Nat) (hx : x < 4294967296) (hn : 0 < n) (hn2 : n < 32) (hr : rr x n = r) (w0 : World) : Calls prog 86 #[nu32 x, .int .i64 (-(n : Int))] w0 fun e w' => e = .returned (nu32 r) ∧ Below w0.heap.size w0 w' := by
 refine enter (n := 17) (args := [nu32 x, .int .i64 (-(n : Int))]) func86 rfl rfl (Nat.le_of_ble_eq_true rfl) fun ac hs => wp_seq (wp_region_lit (asg hs rfl rfl rfl fun ac hs => wpList_nil (then_n (wp_seq (wp_region_lit (mvv hs rfl rfl rfl fun ac hs => stp (op_convert hs none (v := nu64 (18446744073709551616 - n)) rfl rfl rfl (conv_neg64 underlying3 underlying87 hn (by omega)) rfl fun ac hs => bnn hs (nu64 (32 - n)) rfl rfl rfl rfl (bin_andN (y := 31) (and31 hn hn2) (show 18446744073709551616 - n < 18446744073709551616 by omega) (by decide) (show 32 - n < 18446744073709551616 by omega)) fun ac hs => asg hs rfl rfl rfl fun ac hs => wpList_nil (then_n (wp_seq (wp_region_lit (mvv hs rfl rfl rfl fun ac hs => ?_)))))))))))
 refine mvv hs rfl rfl rfl fun ac hs => bnn hs (nu32 (x * 2 ^ (32 - n) % 4294967296)) rfl rfl rfl rfl (bin_shlM rfl rfl) fun ac hs => mvv hs rfl rfl rfl fun ac hs => mvv hs rfl rfl rfl fun ac hs => bnn hs (nu64 n) rfl rfl rfl rfl (bin_subN (x := 32) (by omega) (show n < 18446744073709551616 by omega)) fun ac hs => bnn hs (nu32 (x / 2 ^ n)) rfl rfl rfl rfl (bin_shrN rfl hx) fun ac hs => bnn hs (nu32 (rr x n)) rfl rfl rfl rfl (bin_orN (Nat.or_comm _ _) (m32 _) (Nat.lt_of_le_of_lt (Nat.div_le_self _ _) hx) (rr_lt hx)) fun ac hs => asg hs rfl rfl rfl fun ac hs => wpList_nil (then_n (wp_ret ?_))
 exact bodyPost_ret (res1 rfl (rv_t hs rfl)) hs.defers ⟨by rw [hr], (hs.bel rfl)⟩
theorem turn_c (x n r : Nat) (hx : x < 4294967296) (hn2 : n < 32) (hr : rr x n = r) (w0 : World) : Calls prog 87 #[nu32 x, nu64 n] w0 fun e w' => e = .returned (nu32 r) ∧ Below w0.heap.size w0 w' := by
 refine enter (n := 13) (args := [nu32 x, nu64 n]) func87 rfl rfl (Nat.le_of_ble_eq_true rfl) fun ac hs => wp_seq (wp_region_lit (asg hs rfl rfl rfl fun ac hs => wpList_nil (then_n (wp_seq (wp_region_lit (mvv hs rfl rfl rfl fun ac hs => mvv hs rfl rfl rfl fun ac hs => bnn hs (nu32 (x / 2 ^ n)) rfl rfl rfl rfl (bin_shrN rfl hx) fun ac hs => mvv hs rfl rfl rfl fun ac hs => mvv hs rfl rfl rfl fun ac hs => bnn hs (nu64 (32 - n)) rfl rfl rfl rfl (bin_subN (x := 32) (by omega) (show 32 - n < 18446744073709551616 by omega)) fun ac hs => ?_))))))
 refine bnn hs (nu32 (x * 2 ^ (32 - n) % 4294967296)) rfl rfl rfl rfl (bin_shlM rfl rfl) fun ac hs => bnn hs (nu32 (rr x n)) rfl rfl rfl rfl (bin_orN (rfl) (Nat.lt_of_le_of_lt (Nat.div_le_self _ _) hx) (m32 _) (rr_lt hx)) fun ac hs => asg hs rfl rfl rfl fun ac hs => wpList_nil (then_n (wp_ret ?_))
 exact bodyPost_ret (res1 rfl (rv_t hs rfl)) hs.defers ⟨by rw [hr], (hs.bel rfl)⟩
theorem firsts_c  (w0 : World) : Calls prog 79 #[] w0 fun e w' => e = .returned (At .u32 8 HH0) ∧ Below w0.heap.size w0 w' := by
 refine enter (n := 2) (args := []) func79 rfl rfl (Nat.le_of_ble_eq_true rfl) fun ac hs => wp_seq (wp_region_lit (stp (op_alloc hs none none (cs := (tab .u32 8 (fun _ => 0))) rfl rfl zeroValue101 (by kernel_rfl) rfl rfl fun g1 ac w hs => wpList_nil (then_n (wp_seq (wp_region_lit (stp (op_build hs none (qs := [(0, .int .u32 1779033703), (1, .int .u32 3144134277), (2, .int .u32 1013904242), (3, .int .u32 2773480762), (4, .int .u32 1359893119), (5, .int .u32 2600822924), (6, .int .u32 528734635), (7, .int .u32 1541459225)]) (v := At .u32 8 HH0) rfl rfl rfl rfl (fun _ => by kernel_rfl) rfl fun ac hs => stp (stoo hs 0 ((tab .u32 8 HH0)) sizeOf101 rfl rfl rfl rfl rfl (by kernel_rfl) tab_length' (tab_one _ _ _) tab_leA wr_tab fun w hs => wpList_nil (then_n (wp_ret ?_)))))))))))
 exact bodyPost_ret (res1 rfl (rv_c hs 0 (v := At .u32 8 HH0) rfl rfl isAgg101 sizeOf101 ldv_tab)) hs.defers ⟨rfl, (hs.bel rfl)⟩
theorem steps_c  (w0 : World) : Calls prog 85 #[] w0 fun e w' => e = .returned (At .u32 64 KK) ∧ Below w0.heap.size w0 w' := by
 refine enter (n := 2) (args := []) func85 rfl rfl (Nat.le_of_ble_eq_true rfl) fun ac hs => wp_seq (wp_region_lit (stp (op_alloc hs none none (cs := (tab .u32 64 (fun _ => 0))) rfl rfl zeroValue109 (by kernel_rfl) rfl rfl fun g1 ac w hs => wpList_nil (then_n (wp_seq (wp_region_lit (stp (op_build hs none (qs := [(0, .int .u32 1116352408), (1, .int .u32 1899447441), (2, .int .u32 3049323471), (3, .int .u32 3921009573), (4, .int .u32 961987163), (5, .int .u32 1508970993), (6, .int .u32 2453635748), (7, .int .u32 2870763221), (8, .int .u32 3624381080), (9, .int .u32 310598401), (10, .int .u32 607225278), (11, .int .u32 1426881987), (12, .int .u32 1925078388), (13, .int .u32 2162078206), (14, .int .u32 2614888103), (15, .int .u32 3248222580), (16, .int .u32 3835390401), (17, .int .u32 4022224774), (18, .int .u32 264347078), (19, .int .u32 604807628), (20, .int .u32 770255983), (21, .int .u32 1249150122), (22, .int .u32 1555081692), (23, .int .u32 1996064986), (24, .int .u32 2554220882), (25, .int .u32 2821834349), (26, .int .u32 2952996808), (27, .int .u32 3210313671), (28, .int .u32 3336571891), (29, .int .u32 3584528711), (30, .int .u32 113926993), (31, .int .u32 338241895), (32, .int .u32 666307205), (33, .int .u32 773529912), (34, .int .u32 1294757372), (35, .int .u32 1396182291), (36, .int .u32 1695183700), (37, .int .u32 1986661051), (38, .int .u32 2177026350), (39, .int .u32 2456956037), (40, .int .u32 2730485921), (41, .int .u32 2820302411), (42, .int .u32 3259730800), (43, .int .u32 3345764771), (44, .int .u32 3516065817), (45, .int .u32 3600352804), (46, .int .u32 4094571909), (47, .int .u32 275423344), (48, .int .u32 430227734), (49, .int .u32 506948616), (50, .int .u32 659060556), (51, .int .u32 883997877), (52, .int .u32 958139571), (53, .int .u32 1322822218), (54, .int .u32 1537002063), (55, .int .u32 1747873779), (56, .int .u32 1955562222), (57, .int .u32 2024104815), (58, .int .u32 2227730452), (59, .int .u32 2361852424), (60, .int .u32 2428436474), (61, .int .u32 2756734187), (62, .int .u32 3204031479), (63, .int .u32 3329325298)]) (v := At .u32 64 KK) rfl rfl rfl rfl (fun _ => by kernel_rfl) rfl fun ac hs => stp (stoo hs 0 ((tab .u32 64 KK)) sizeOf109 rfl rfl rfl rfl rfl (by kernel_rfl) tab_length' (tab_one _ _ _) tab_leA wr_tab fun w hs => wpList_nil (then_n (wp_ret ?_)))))))))))
 exact bodyPost_ret (res1 rfl (rv_c hs 0 (v := At .u32 64 KK) rfl rfl isAgg109 sizeOf109 ldv_tab)) hs.defers ⟨rfl, (hs.bel rfl)⟩
theorem spread_c (ad : Option Addr) (nl c : Nat) (l : List UInt8) (h64 : l.length = 64) (w0 : World) (Z : Nat → Prop) (hl : ByV w0 Z (.slice ad nl c) l): Calls prog 84 #[.slice ad nl c] w0 fun e w' => Ret w0 Z (ρ := Unit) (fun r => At .u32 64 (wv l)) (fun r => []) e w' := by
 obtain rfl := byv_len hl
 refine enterS (n := 82) (args := [.slice ad l.length c]) (S := [(true, cL ad l.length c (bcs l))]) (Z := Z) func84 rfl rfl (Nat.le_of_ble_eq_true rfl) (sokC hl sok0) rfl fun ac hs => wp_seq (wp_region_lit (stp (op_alloc hs none none (cs := (tab .u32 64 (fun _ => 0))) rfl rfl zeroValue109 (by kernel_rfl) rfl rfl fun g1 ac w hs => wpList_nil (then_n (wp_seq (wp_region_lit (stp (op_alloc hs none none (cs := (tab .u32 64 (fun _ => 0))) rfl rfl zeroValue109 (by kernel_rfl) rfl rfl fun g2 ac w hs => wpList_nil (then_n (wp_seq (wp_seq (wp_region_lit (mvv hs rfl rfl rfl fun ac hs => wpList_nil (then_n (wp_block ?_)))))))))))))))
 replace hs := hs.setb 1 (cs' := (tab .u32 64 (w16 l 0 0))) rfl (tab_ext fun j hj => w16_zero l j)
 refine wp_loop_m (fun μ ac w => ∃ (i : Nat), (16 - i) = μ ∧ (i ≤ 16) ∧ St 82 ⟨w0, [], [(true, cL ad l.length c (bcs l))], Z, noX⟩ [(0, true, .slice ad l.length c), (2, true, ptA g1 0), (3, true, ptA g2 0), (12, true, ni64 i)] [(true, g1, 109, (tab .u32 64 (fun _ => 0))), (true, g2, 109, (tab .u32 64 (w16 l i 0)))] ac w) ?_ ?_
 ·exact ⟨_, 0, rfl, (by omega), (hs.re (fs' := [(0, true, .slice ad l.length c), (2, true, ptA g1 0), (3, true, ptA g2 0), (12, true, ni64 0)]) ⟨rfl, rfl, rfl, rfl, trivial⟩)⟩
 intro μ ac w ⟨i, hμ, hi, hs⟩
 refine wp_seq (wp_region_lit (bnn hs (.bool (decide (i < 16))) rfl rfl rfl rfl (bin_lssN (y := 16)) fun ac hs => wpList_nil (then_n (wp_seq (wcs hs rfl ?_ ?_)))))
 ·intro hc
  have hp3 := of_decide_eq_true hc
  have hi16 := of_decide_eq_true hc
  refine wp_skip (then_n (wp_seq (wp_block (wp_seq (wp_region_lit (mvv hs rfl rfl rfl fun ac hs => asg hs rfl rfl rfl fun ac hs => wpList_nil (then_n (wp_seq (wp_region_lit (mvv hs rfl rfl rfl fun ac hs => mvv hs rfl rfl rfl fun ac hs => bnn hs (ni64 (4 * i)) rfl rfl rfl rfl (bin_mulN (x := 4) rfl (show 4 * i < 9223372036854775808 by omega)) fun ac hs => mvv hs rfl rfl rfl fun ac hs => bnn hs (ni64 (4 * i)) rfl rfl rfl rfl (bin_mulN (x := 4) rfl (show 4 * i < 9223372036854775808 by omega)) fun ac hs => bnn hs (ni64 (4 * i + 4)) rfl rfl rfl rfl (bin_addN (y := 4) rfl (show 4 * i + 4 < 9223372036854775808 by omega)) fun ac hs => ?_))))))))))
  refine stp (op_sliceR hs none none 0 (4 * i) (4 * i + 4) (N' := ((l.drop (4 * i)).take (4 * i + 4 - (4 * i))).length) (cs' := bcs ((l.drop (4 * i)).take (4 * i + 4 - (4 * i)))) rfl rfl rfl rfl (.inr ⟨_, _, rfl, rfl⟩) (.inr ⟨_, _, rfl, rfl⟩) underlying34 sizeOf5 (show 4 * i ≤ 4 * i + 4 by omega) (show 4 * i + 4 ≤ l.length by omega) (len_both (show 4 * i ≤ 4 * i + 4 by omega) (show 4 * i + 4 ≤ l.length by omega)) (bcs_part _ _ _) rfl rfl fun ac hs => stp (op_blt hs none (v := .int .i64 ((((l.drop (4 * i)).take (4 * i + 4 - (4 * i))).length : Nat) : Int)) rfl rfl rfl (blt_len underlying34) rfl fun ac hs => mvv hs rfl rfl rfl fun ac hs => wpList_nil (then_n (wp_block (wp_loop_m (fun μ ac w => ∃ (k : Nat), (4 - k) = μ ∧ (k ≤ 4) ∧ St 82 ⟨w0, [], [(true, cL ad l.length c (bcs l)), (true, cL (vsa ad c 1 (4 * i)) (((l.drop (4 * i)).take (4 * i + 4 - (4 * i))).length) (c - (4 * i)) (bcs ((l.drop (4 * i)).take (4 * i + 4 - (4 * i)))))], Z, noX⟩ [(0, true, .slice ad l.length c), (2, true, ptA g1 0), (3, true, ptA g2 0), (4, true, ni64 i), (12, true, ni64 i), (21, true, .slice (vsa ad c 1 (4 * i)) (((l.drop (4 * i)).take (4 * i + 4 - (4 * i))).length) (c - (4 * i))), (22, true, .int .i64 ((((l.drop (4 * i)).take (4 * i + 4 - (4 * i))).length : Nat) : Int)), (23, true, ni64 k)] [(true, g1, 109, (tab .u32 64 (fun _ => 0))), (true, g2, 109, (tab .u32 64 (w16 l i k)))] ac w) ?_ ?_)))))
  ·exact ⟨_, 0, rfl, (by omega), (hs.re (fs' := [(0, true, .slice ad l.length c), (2, true, ptA g1 0), (3, true, ptA g2 0), (4, true, ni64 i), (12, true, ni64 i), (21, true, .slice (vsa ad c 1 (4 * i)) (((l.drop (4 * i)).take (4 * i + 4 - (4 * i))).length) (c - (4 * i))), (22, true, .int .i64 ((((l.drop (4 * i)).take (4 * i + 4 - (4 * i))).length : Nat) : Int)), (23, true, ni64 0)]) ⟨rfl, rfl, rfl, rfl, rfl, rfl, rfl, rfl, trivial⟩)⟩
  intro μ ac w ⟨k, hμ, hk, hs⟩
  refine wp_seq (wp_region_lit (bnn hs (.bool (decide (k < ((l.drop (4 * i)).take (4 * i + 4 - (4 * i))).length))) rfl rfl rfl rfl bin_lssN fun ac hs => wpList_nil (then_n (wp_seq (wcs hs rfl ?_ ?_)))))
  ·intro hc
   have hp4 := of_decide_eq_true hc
   have hk4 : k < 4 := by have := of_decide_eq_true hc; simp only [List.length_take, List.length_drop] at this; omega
   have hpt := pre4_24 (b := l) (t := i) hk4
   refine wp_skip (then_n (wp_seq (wp_block (wp_seq (wp_region_lit (stp (op_idxC hs none 1 (j := k) rfl rfl rfl rfl rfl underlying34 sizeOf5 (show k < ((l.drop (4 * i)).take (4 * i + 4 - (4 * i))).length by first | omega | ((try simp only [List.length_drop, List.length_take, List.length_append, List.length_cons, List.length_nil]); omega)) (off := k) (by omega) rfl fun ac hs => ?_)))))))
   have l5 := byt_lt ((l.drop (4 * i)).take (4 * i + 4 - (4 * i))) k
   refine stp (op_loadC hs none 1 (u := .int .u8 ((byt ((l.drop (4 * i)).take (4 * i + 4 - (4 * i))) k : Nat) : Int)) rfl rfl rfl rfl isAgg5 sizeOf5 (by decide) (bcs_get (show k < ((l.drop (4 * i)).take (4 * i + 4 - (4 * i))).length by first | omega | ((try simp only [List.length_drop, List.length_take, List.length_append, List.length_cons, List.length_nil]); omega))) rfl fun ac hs => asg hs rfl rfl rfl fun ac hs => wpList_nil (then_n (wp_region_lit (mvv hs rfl rfl rfl fun ac hs => mvv hs rfl rfl rfl fun ac hs => stp (op_idxA hs none (j := i) rfl rfl rfl rfl underlying109 sizeOf99 (show i < 64 by omega) (off := i) (by omega) rfl fun ac hs => ldd hs 1 (nu32 ((w16 l i k) i)) isAgg99 sizeOf99 rfl rfl rfl rfl (tab_get (j := i) (show i < 64 by omega)) fun ac hs => bnn hs (nu32 (pre4 l i k * 256)) rfl rfl rfl rfl (bin_shlZ (y := 8) (by rw [w16_at]) (by decide) (show pre4 l i k * 256 < 4294967296 by omega)) fun ac hs => mvv hs rfl rfl rfl fun ac hs => stp (op_convert hs none (v := .int .u32 ((byt ((l.drop (4 * i)).take (4 * i + 4 - (4 * i))) k : Nat) : Int)) rfl rfl rfl (conv_N underlying5 underlying99 (show byt ((l.drop (4 * i)).take (4 * i + 4 - (4 * i))) k < 4294967296 by first | omega | ((try simp only [List.length_drop, List.length_take, List.length_append, List.length_cons, List.length_nil]); omega))) rfl fun ac hs => ?_))))))
   refine bnn hs (.int .u32 ((pre4 l i k * 256 + (byt ((l.drop (4 * i)).take (4 * i + 4 - (4 * i))) k) : Nat) : Int)) rfl rfl rfl rfl (bin_orN (z := pre4 l i k * 256 + (byt ((l.drop (4 * i)).take (4 * i + 4 - (4 * i))) k)) (or_256' (byt_lt _ _)) (show pre4 l i k * 256 < 4294967296 by omega) (show byt ((l.drop (4 * i)).take (4 * i + 4 - (4 * i))) k < 4294967296 by have := byt_lt ((l.drop (4 * i)).take (4 * i + 4 - 4 * i)) k; omega) (show pre4 l i k * 256 + (byt ((l.drop (4 * i)).take (4 * i + 4 - (4 * i))) k) < 4294967296 by have := byt_lt ((l.drop (4 * i)).take (4 * i + 4 - 4 * i)) k; omega)) fun ac hs => stp (op_idxA hs none (j := i) rfl rfl rfl rfl underlying109 sizeOf99 (show i < 64 by omega) (off := i) (by omega) rfl fun ac hs => stp (stoo hs 1 ([.int .u32 ((pre4 l i k * 256 + (byt ((l.drop (4 * i)).take (4 * i + 4 - (4 * i))) k) : Nat) : Int)]) sizeOf99 rfl rfl rfl rfl rfl rfl rfl rfl (tab_le (j := i) (show i < 64 by omega)) (tab_set) fun w hs => wpList_nil (blk_n (then_n ?_))))
   replace hs := hs.nf w0 Z noX [0, 2, 3, 4, 12, 21, 22, 23] rfl rfl rfl rfl
   refine wp_region_lit (bnn hs (ni64 (k + 1)) rfl rfl rfl rfl (bin_addN (y := 1) rfl (show k + 1 < 9223372036854775808 by omega)) fun ac hs => mvv hs rfl rfl rfl fun ac hs => wpList_nil (then_n ?_))
   replace hs := hs.setb 1 (cs' := (tab .u32 64 (w16 l i (k + 1)))) rfl (tab_ext fun j hj => w16_step (by rw [show 4 * i + 4 - 4 * i = 4 by omega, byt_part hk4]) j)
   exact ⟨_, ⟨(k + 1), rfl, (by omega), (hs.re (fs' := [(0, true, .slice ad l.length c), (2, true, ptA g1 0), (3, true, ptA g2 0), (4, true, ni64 i), (12, true, ni64 i), (21, true, .slice (vsa ad c 1 (4 * i)) (((l.drop (4 * i)).take (4 * i + 4 - (4 * i))).length) (c - (4 * i))), (22, true, .int .i64 ((((l.drop (4 * i)).take (4 * i + 4 - (4 * i))).length : Nat) : Int)), (23, true, ni64 ((k + 1)))]) ⟨rfl, rfl, rfl, rfl, rfl, rfl, rfl, rfl, trivial⟩)⟩, (by omega)⟩
  intro hc
  have hp6 := of_decide_eq_false hc
  obtain rfl : k = 4 := by have := of_decide_eq_false hc; simp only [List.length_take, List.length_drop] at this; omega
  replace hs := hs.setb 1 (cs' := (tab .u32 64 (w16 l (i + 1) 0))) rfl (tab_ext fun j hj => w16_next hi16 j)
  refine wp_exit (then_e (then_e (blk_e (blk_n (then_n (wp_region_lit (bnn hs (ni64 (i + 1)) rfl rfl rfl rfl (bin_addN (y := 1) rfl (show i + 1 < 9223372036854775808 by omega)) fun ac hs => mvv hs rfl rfl rfl fun ac hs => wpList_nil (then_n ?_))))))))
  replace hs := hs.selS [0] rfl (by decide)
  exact ⟨_, ⟨(i + 1), rfl, (by omega), (hs.re (fs' := [(0, true, .slice ad l.length c), (2, true, ptA g1 0), (3, true, ptA g2 0), (12, true, ni64 ((i + 1)))]) ⟨rfl, rfl, rfl, rfl, trivial⟩)⟩, (by omega)⟩
 intro hc
 have hp7 := of_decide_eq_false hc
 obtain rfl : i = 16 := by have := of_decide_eq_false hc; omega
 replace hs := hs.setb 1 (cs' := (tab .u32 64 (w64 l 16))) rfl (tab_ext fun j hj => w64_16 l j)
 refine wp_exit (then_e (then_e (blk_e (then_n (wp_seq (wp_seq (wp_region_lit (asg hs rfl rfl rfl fun ac hs => wpList_nil (then_n (wp_block (wp_loop_m (fun μ ac w => ∃ (i : Nat), (64 - i) = μ ∧ (16 ≤ i) ∧ (i ≤ 64) ∧ St 82 ⟨w0, [], [(true, cL ad l.length c (bcs l))], Z, noX⟩ [(2, true, ptA g1 0), (3, true, ptA g2 0), (7, true, ni64 i)] [(true, g1, 109, (tab .u32 64 (fun _ => 0))), (true, g2, 109, (tab .u32 64 (w64 l i)))] ac w) ?_ ?_)))))))))))
 ·exact ⟨_, 16, rfl, (by omega), (by omega), (hs.re (fs' := [(2, true, ptA g1 0), (3, true, ptA g2 0), (7, true, ni64 16)]) ⟨rfl, rfl, rfl, trivial⟩)⟩
 intro μ ac w ⟨i, hμ, hi1, hi, hs⟩
 refine wp_seq (wp_seq (wp_region_lit (mvv hs rfl rfl rfl fun ac hs => bnn hs (.bool (decide (i < 64))) rfl rfl rfl rfl (bin_lssN (y := 64)) fun ac hs => wpList_nil (then_n (wcs hs rfl ?_ ?_)))))
 ·intro hc
  have hp8 := of_decide_eq_true hc
  have hi64 := of_decide_eq_true hc
  refine wp_skip (then_n (wp_seq (wp_block (wp_seq ?_))))
  replace hs := hs.nf w0 Z noX [2, 3, 7] rfl rfl rfl rfl
  have l9 := w64_lt l i (i - 15)
  have l10 := w64_lt l i (i - 2)
  refine region_inv [([], [1, 2, 3, 8, 9]), ([0], [2, 3, 8, 9]), ([0, 1], [3, 8, 9]), ([0, 1, 2], [8, 9]), ([], [5, 6, 7, 9]), ([4], [6, 7, 9]), ([4, 5], [7, 9]), ([4, 5, 6], [9]), (rgn 0 4, [9]), (rgn 0 9, [])] (fun L ac w => St 82 ⟨w0, [], [(true, cL ad l.length c (bcs l))], Z, noX⟩ [(42, L 0, ni64 i), (43, L 1, ni64 (i - 15)), (44, L 2, .pointer (some ⟨g2, i - 15, none⟩)), (45, L 3, .int .u32 (((w64 l i) (i - 15) : Nat) : Int)), (46, L 4, ni64 i), (47, L 5, ni64 (i - 2)), (48, L 6, .pointer (some ⟨g2, i - 2, none⟩)), (49, L 7, .int .u32 (((w64 l i) (i - 2) : Nat) : Int)), (8, L 8, .int .u32 (((w64 l i) (i - 15) : Nat) : Int)), (9, L 9, .int .u32 (((w64 l i) (i - 2) : Nat) : Int)), (2, true, ptA g1 0), (3, true, ptA g2 0), (7, true, ni64 i)] [(true, g1, 109, (tab .u32 64 (fun _ => 0))), (true, g2, 109, (tab .u32 64 (w64 l i)))] ac w) (by kernel_rfl) (by kernel_rfl) ?_ ?_ ?_
  ·exact hs.drew.s4.s4.skip.skip
  ·refine ⟨?_, ?_, ?_, ?_, ?_, ?_, ?_, ?_, ?_, ?_, trivial⟩
   ·exact fun L ac w hs => pln (omv hs 0 rfl rfl rfl fun ac hs => hs)
   ·exact fun L ac w hs => pln (obn hs 1 (ni64 (i - 15)) rfl rfl rfl rfl (bin_subN (y := 15) (by omega) (show i - 15 < 9223372036854775808 by omega)) fun ac hs => hs)
   ·exact fun L ac w hs => pln (op_idxA hs (some 2) (j := i - 15) rfl rfl rfl rfl underlying109 sizeOf99 (show i - 15 < 64 by omega) (off := i - 15) (by omega) rfl fun ac hs => hs)
   ·exact fun L ac w hs => pln (oldd hs 3 1 (.int .u32 (((w64 l i) (i - 15) : Nat) : Int)) isAgg99 sizeOf99 rfl rfl rfl rfl (tab_get (j := i - 15) (show i - 15 < 64 by omega)) fun ac hs => hs)
   ·exact fun L ac w hs => pln (omv hs 4 rfl rfl rfl fun ac hs => hs)
   ·exact fun L ac w hs => pln (obn hs 5 (ni64 (i - 2)) rfl rfl rfl rfl (bin_subN (y := 2) (by omega) (show i - 2 < 9223372036854775808 by omega)) fun ac hs => hs)
   ·exact fun L ac w hs => pln (op_idxA hs (some 6) (j := i - 2) rfl rfl rfl rfl underlying109 sizeOf99 (show i - 2 < 64 by omega) (off := i - 2) (by omega) rfl fun ac hs => hs)
   ·exact fun L ac w hs => pln (oldd hs 7 1 (.int .u32 (((w64 l i) (i - 2) : Nat) : Int)) isAgg99 sizeOf99 rfl rfl rfl rfl (tab_get (j := i - 2) (show i - 2 < 64 by omega)) fun ac hs => hs)
   ·exact fun L ac w hs => pln (oas hs 8 rfl rfl rfl fun ac hs => hs)
   ·exact fun L ac w hs => pln (oas hs 9 rfl rfl rfl fun ac hs => hs)
  intro ac w hs
  try dsimp only [cond_true] at hs
  refine then_n (wp_seq (wp_region_lit (mvv hs rfl rfl rfl fun ac hs => ?_)))
  obtain ⟨x11, hx11, lx11⟩ : ∃ z0, rr ((w64 l i) (i - 15)) 7 = z0 ∧ z0 < 4294967296 := ⟨_, rfl, rr_lt (show (w64 l i) (i - 15) < 4294967296 by omega)⟩
  refine stp (op_call (F := 86) hs none (v := nu32 x11) rfl rfl rfl rfl (call86 _) (rot_c ((w64 l i) (i - 15)) 7 x11 (show (w64 l i) (i - 15) < 4294967296 by omega) (by decide) (by decide) hx11) rfl fun ac w hs => mvv hs rfl rfl rfl fun ac hs => ?_)
  obtain ⟨x12, hx12, lx12⟩ : ∃ z0, rr ((w64 l i) (i - 15)) 18 = z0 ∧ z0 < 4294967296 := ⟨_, rfl, rr_lt (show (w64 l i) (i - 15) < 4294967296 by omega)⟩
  refine stp (op_call (F := 86) hs none (v := nu32 x12) rfl rfl rfl rfl (call86 _) (rot_c ((w64 l i) (i - 15)) 18 x12 (show (w64 l i) (i - 15) < 4294967296 by omega) (by decide) (by decide) hx12) rfl fun ac w hs => ?_)
  obtain ⟨x13, hx13, lx13⟩ : ∃ z0, x11 ^^^ x12 = z0 ∧ z0 < 4294967296 := ⟨_, rfl, x32 (show x11 < 4294967296 by omega) (show x12 < 4294967296 by omega)⟩
  refine bnn hs (nu32 x13) rfl rfl rfl rfl (bin_xorN hx13 (show x11 < 4294967296 by omega) (show x12 < 4294967296 by omega) lx13) fun ac hs => mvv hs rfl rfl rfl fun ac hs => ?_
  obtain ⟨x14, hx14, lx14⟩ : ∃ z0, ((w64 l i) (i - 15)) / 2 ^ 3 = z0 ∧ z0 < 4294967296 := ⟨_, rfl, Nat.lt_of_le_of_lt (Nat.div_le_self _ _) (show (w64 l i) (i - 15) < 4294967296 by omega)⟩
  refine bnn hs (nu32 x14) rfl rfl rfl rfl (bin_shrN (y := 3) hx14 (show (w64 l i) (i - 15) < 4294967296 by omega)) fun ac hs => ?_
  obtain ⟨x15, hx15, lx15⟩ : ∃ z0, x13 ^^^ x14 = z0 ∧ z0 < 4294967296 := ⟨_, rfl, x32 (show x13 < 4294967296 by omega) (show x14 < 4294967296 by omega)⟩
  refine bnn hs (nu32 x15) rfl rfl rfl rfl (bin_xorN hx15 (show x13 < 4294967296 by omega) (show x14 < 4294967296 by omega) lx15) fun ac hs => asg hs rfl rfl rfl fun ac hs => wpList_nil (then_n (wp_seq ?_))
  replace hs := hs.nf w0 Z noX [2, 3, 7, 9, 10] rfl rfl rfl rfl
  refine wp_region_lit (mvv hs rfl rfl rfl fun ac hs => ?_)
  obtain ⟨x16, hx16, lx16⟩ : ∃ z0, rr ((w64 l i) (i - 2)) 17 = z0 ∧ z0 < 4294967296 := ⟨_, rfl, rr_lt (show (w64 l i) (i - 2) < 4294967296 by omega)⟩
  refine stp (op_call (F := 86) hs none (v := nu32 x16) rfl rfl rfl rfl (call86 _) (rot_c ((w64 l i) (i - 2)) 17 x16 (show (w64 l i) (i - 2) < 4294967296 by omega) (by decide) (by decide) hx16) rfl fun ac w hs => mvv hs rfl rfl rfl fun ac hs => ?_)
  obtain ⟨x17, hx17, lx17⟩ : ∃ z0, rr ((w64 l i) (i - 2)) 19 = z0 ∧ z0 < 4294967296 := ⟨_, rfl, rr_lt (show (w64 l i) (i - 2) < 4294967296 by omega)⟩
  refine stp (op_call (F := 86) hs none (v := nu32 x17) rfl rfl rfl rfl (call86 _) (rot_c ((w64 l i) (i - 2)) 19 x17 (show (w64 l i) (i - 2) < 4294967296 by omega) (by decide) (by decide) hx17) rfl fun ac w hs => ?_)
  obtain ⟨x18, hx18, lx18⟩ : ∃ z0, x16 ^^^ x17 = z0 ∧ z0 < 4294967296 := ⟨_, rfl, x32 (show x16 < 4294967296 by omega) (show x17 < 4294967296 by omega)⟩
  refine bnn hs (nu32 x18) rfl rfl rfl rfl (bin_xorN hx18 (show x16 < 4294967296 by omega) (show x17 < 4294967296 by omega) lx18) fun ac hs => mvv hs rfl rfl rfl fun ac hs => ?_
  obtain ⟨x19, hx19, lx19⟩ : ∃ z0, ((w64 l i) (i - 2)) / 2 ^ 10 = z0 ∧ z0 < 4294967296 := ⟨_, rfl, Nat.lt_of_le_of_lt (Nat.div_le_self _ _) (show (w64 l i) (i - 2) < 4294967296 by omega)⟩
  refine bnn hs (nu32 x19) rfl rfl rfl rfl (bin_shrN (y := 10) hx19 (show (w64 l i) (i - 2) < 4294967296 by omega)) fun ac hs => ?_
  obtain ⟨x20, hx20, lx20⟩ : ∃ z0, x18 ^^^ x19 = z0 ∧ z0 < 4294967296 := ⟨_, rfl, x32 (show x18 < 4294967296 by omega) (show x19 < 4294967296 by omega)⟩
  refine bnn hs (nu32 x20) rfl rfl rfl rfl (bin_xorN hx20 (show x18 < 4294967296 by omega) (show x19 < 4294967296 by omega) lx20) fun ac hs => asg hs rfl rfl rfl fun ac hs => wpList_nil (then_n ?_)
  replace hs := hs.nf w0 Z noX [2, 3, 7, 10, 11] rfl rfl rfl rfl
  have l21 := w64_lt l i (i - 16)
  obtain ⟨x22, hx22, lx22⟩ : ∃ z0, ((w64 l i) (i - 16) + x15) % 4294967296 = z0 ∧ z0 < 4294967296 := ⟨_, rfl, m32 _⟩
  have l23 := w64_lt l i (i - 7)
  obtain ⟨x24, hx24, lx24⟩ : ∃ z0, (x22 + ((w64 l i) (i - 7))) % 4294967296 = z0 ∧ z0 < 4294967296 := ⟨_, rfl, m32 _⟩
  obtain ⟨x25, hx25, lx25⟩ : ∃ z0, (x24 + x20) % 4294967296 = z0 ∧ z0 < 4294967296 := ⟨_, rfl, m32 _⟩
  refine region_inv [([], [14, 15]), ([], [2, 3, 4, 6, 11, 13, 14, 15]), ([1], [3, 4, 6, 11, 13, 14, 15]), ([1, 2], [4, 6, 11, 13, 14, 15]), ([1, 2, 3], [6, 11, 13, 14, 15]), ([], [6, 11, 13, 14, 15]), (rgn 1 5, [11, 13, 14, 15]), ([], [8, 9, 10, 11, 13, 14, 15]), ([7], [9, 10, 11, 13, 14, 15]), ([7, 8], [10, 11, 13, 14, 15]), ([7, 8, 9], [11, 13, 14, 15]), (rgn 1 10, [13, 14, 15]), ([], [13, 14, 15]), (rgn 1 12, [14, 15]), (rgn 0 14, [15]), (rgn 0 15, [])] (fun L ac w => St 82 ⟨w0, [], [(true, cL ad l.length c (bcs l))], Z, noX⟩ [(66, L 0, ni64 i), (67, L 1, ni64 i), (68, L 2, ni64 (i - 16)), (69, L 3, .pointer (some ⟨g2, i - 16, none⟩)), (70, L 4, .int .u32 (((w64 l i) (i - 16) : Nat) : Int)), (71, L 5, nu32 x15), (72, L 6, nu32 x22), (73, L 7, ni64 i), (74, L 8, ni64 (i - 7)), (75, L 9, .pointer (some ⟨g2, i - 7, none⟩)), (76, L 10, .int .u32 (((w64 l i) (i - 7) : Nat) : Int)), (77, L 11, nu32 x24), (78, L 12, nu32 x20), (79, L 13, nu32 x25), (80, L 14, .pointer (some ⟨g2, i, none⟩)), (2, true, ptA g1 0), (3, true, ptA g2 0), (7, true, ni64 i), (10, true, nu32 x15), (11, true, nu32 x20)] [(true, g1, 109, (tab .u32 64 (fun _ => 0))), (true, g2, 109, (cond (L 15) (tab .u32 64 (upn (w64 l i) i x25)) (tab .u32 64 (w64 l i))))] ac w) (by kernel_rfl) (by kernel_rfl) ?_ ?_ ?_
  ·exact hs.drew.s4.s4.s4.skip.skip.skip
  ·refine ⟨?_, ?_, ?_, ?_, ?_, ?_, ?_, ?_, ?_, ?_, ?_, ?_, ?_, ?_, ?_, ?_, trivial⟩
   ·exact fun L ac w hs => pln (omv hs 0 rfl rfl rfl fun ac hs => hs)
   ·exact fun L ac w hs => pln (omv hs 1 rfl rfl rfl fun ac hs => hs)
   ·exact fun L ac w hs => pln (obn hs 2 (ni64 (i - 16)) rfl rfl rfl rfl (bin_subN (y := 16) (by omega) (show i - 16 < 9223372036854775808 by omega)) fun ac hs => hs)
   ·exact fun L ac w hs => pln (op_idxA hs (some 3) (j := i - 16) rfl rfl rfl rfl underlying109 sizeOf99 (show i - 16 < 64 by omega) (off := i - 16) (by omega) rfl fun ac hs => hs)
   ·exact fun L ac w hs => pln (oldd hs 4 1 (.int .u32 (((w64 l i) (i - 16) : Nat) : Int)) isAgg99 sizeOf99 rfl rfl rfl rfl (tab_get (j := i - 16) (show i - 16 < 64 by omega)) fun ac hs => hs)
   ·exact fun L ac w hs => pln (omv hs 5 rfl rfl rfl fun ac hs => hs)
   ·exact fun L ac w hs => pln (obn hs 6 (nu32 x22) rfl rfl rfl rfl (bin_addM rfl hx22) fun ac hs => hs)
   ·exact fun L ac w hs => pln (omv hs 7 rfl rfl rfl fun ac hs => hs)
   ·exact fun L ac w hs => pln (obn hs 8 (ni64 (i - 7)) rfl rfl rfl rfl (bin_subN (y := 7) (by omega) (show i - 7 < 9223372036854775808 by omega)) fun ac hs => hs)
   ·exact fun L ac w hs => pln (op_idxA hs (some 9) (j := i - 7) rfl rfl rfl rfl underlying109 sizeOf99 (show i - 7 < 64 by omega) (off := i - 7) (by omega) rfl fun ac hs => hs)
   ·exact fun L ac w hs => pln (oldd hs 10 1 (.int .u32 (((w64 l i) (i - 7) : Nat) : Int)) isAgg99 sizeOf99 rfl rfl rfl rfl (tab_get (j := i - 7) (show i - 7 < 64 by omega)) fun ac hs => hs)
   ·exact fun L ac w hs => pln (obn hs 11 (nu32 x24) rfl rfl rfl rfl (bin_addM rfl hx24) fun ac hs => hs)
   ·exact fun L ac w hs => pln (omv hs 12 rfl rfl rfl fun ac hs => hs)
   ·exact fun L ac w hs => pln (obn hs 13 (nu32 x25) rfl rfl rfl rfl (bin_addM rfl hx25) fun ac hs => hs)
   ·exact fun L ac w hs => pln (op_idxA hs (some 14) (j := i) rfl rfl rfl rfl underlying109 sizeOf99 (show i < 64 by omega) (off := i) (by omega) rfl fun ac hs => hs)
   ·exact fun L ac w hs => pln (stoo hs 1 ([nu32 x25]) sizeOf99 rfl rfl rfl rfl rfl rfl rfl rfl (tab_le (j := i) (show i < 64 by omega)) (tab_set) fun w hs => hs)
  intro ac w hs
  try dsimp only [cond_true] at hs
  refine blk_n (then_n (wp_region_lit (mvv hs rfl rfl rfl fun ac hs => bnn hs (ni64 (i + 1)) rfl rfl rfl rfl (bin_addN (y := 1) rfl (show i + 1 < 9223372036854775808 by omega)) fun ac hs => asg hs rfl rfl rfl fun ac hs => wpList_nil (then_n ?_))))
  have hz : x25 = wv l i := by rw [wv_hi (by omega), w64_at (i := i) (j := i - 16) (by omega), w64_at (i := i) (j := i - 15) (by omega), w64_at (i := i) (j := i - 7) (by omega), w64_at (i := i) (j := i - 2) (by omega)]; simp only [ss0, ss1, hx11, hx12, hx13, hx14, hx15, hx16, hx17, hx18, hx19, hx20, hx22, hx24, hx25]
  replace hs := hs.setb 1 (cs' := (tab .u32 64 (w64 l (i + 1)))) rfl (tab_ext fun j hj => w64_step hz j)
  exact ⟨_, ⟨(i + 1), rfl, (by omega), (by omega), (hs.re (fs' := [(2, true, ptA g1 0), (3, true, ptA g2 0), (7, true, ni64 ((i + 1)))]) ⟨rfl, rfl, rfl, trivial⟩)⟩, (by omega)⟩
 intro hc
 have hp26 := of_decide_eq_false hc
 obtain rfl : i = 64 := by have := of_decide_eq_false hc; omega
 replace hs := hs.setb 1 (cs' := (tab .u32 64 (wv l))) rfl (tab_ext fun j hj => w64_end hj)
 refine wp_exit (then_e (then_e (blk_e (then_n (wp_seq (wp_region_lit (ldd hs 1 (At .u32 64 (wv l)) isAgg109 sizeOf109 rfl rfl rfl rfl ldv_tab fun ac hs => stp (stoo hs 0 ((tab .u32 64 (wv l))) sizeOf109 rfl rfl rfl rfl rfl (by kernel_rfl) tab_length' (tab_one _ _ _) tab_leA wr_tab fun w hs => wpList_nil (then_n (wp_ret ?_))))))))))
 exact bodyPost_ret (res1 rfl (rv_c hs 0 (v := At .u32 64 (wv l)) rfl rfl isAgg109 sizeOf109 ldv_tab)) hs.defers ⟨(), rfl, hs.bel rfl, okl0⟩
theorem take_c (gs : Nat) (T : TypeId) (h : Nat → Nat) (sp : List Value) (hh : ∀ j, h j < 4294967296) (ad : Option Addr) (c : Nat) (l : List UInt8) (h64 : l.length = 64) (w0 : World) (Z X : Nat → Prop) (hm : Mem ⟨w0, [], [(true, cL ad l.length c (bcs l))], Z, X⟩ [(true, gs, T, (tab .u32 8 h ++ sp))] w0) : Calls prog 80 #[ptA gs 0, .slice ad l.length c] w0 fun e w' => PostX w0 Z X (ρ := Unit) (fun r => .tuple #[]) (fun r => [(true, gs, T, tab .u32 8 (blk h l) ++ sp)]) (fun r => [(true, cL ad l.length c (bcs l))]) e w' := by
 refine enterX (n := 116) (args := [ptA gs 0, .slice ad l.length c]) func80 rfl rfl (Nat.le_of_ble_eq_true rfl) hm fun ac hs => wp_seq (wp_region_lit (mvv hs rfl rfl rfl fun ac hs => stp (op_callS (F := 84) (ρ := Unit) hs none none (v := fun r => At .u32 64 (wv l)) (E := fun r => []) (j := 0) rfl rfl rfl rfl (call84 _) (fun hs => spread_c ad l.length c l (show l.length = 64 by omega) _ _ (hs.all (k := 0) rfl rfl)) (fun _ => rfl) rfl rfl fun _ ac w hs => stp (op_call (F := 85) hs none (v := At .u32 64 KK) rfl rfl rfl rfl (call85 _) steps_c rfl fun ac w hs => stp (op_alloc hs none none (cs := (tab .u32 64 (fun _ => 0))) rfl rfl zeroValue109 (by kernel_rfl) rfl rfl fun g1 ac w hs => stp (op_alloc hs none none (cs := (tab .u32 64 (fun _ => 0))) rfl rfl zeroValue109 (by kernel_rfl) rfl rfl fun g2 ac w hs => stp (stoo hs 1 ((tab .u32 64 (wv l))) sizeOf109 rfl rfl rfl rfl rfl (by kernel_rfl) tab_length' (tab_one _ _ _) tab_leA wr_tab fun w hs => stp (stoo hs 2 ((tab .u32 64 KK)) sizeOf109 rfl rfl rfl rfl rfl (by kernel_rfl) tab_length' (tab_one _ _ _) tab_leA wr_tab fun w hs => wpList_nil (then_n (wp_seq ?_))))))))))
 replace hs := hs.nf w0 Z X [0, 4, 5] rfl rfl rfl rfl
 refine wp_region_lit (mvv hs rfl rfl rfl fun ac hs => stp (op_nilCheck hs none rfl rfl rfl rfl fun ac hs => ldd hs 0 (At .u32 8 h) isAgg101 sizeOf101 rfl rfl rfl rfl ldv_tabs fun ac hs => stp (op_alloc hs none none (cs := (tab .u32 8 (fun _ => 0))) rfl rfl zeroValue101 (by kernel_rfl) rfl rfl fun g3 ac w hs => stp (stoo hs 3 ((tab .u32 8 h)) sizeOf101 rfl rfl rfl rfl rfl (by kernel_rfl) tab_length' (tab_one _ _ _) tab_leA wr_tab fun w hs => wpList_nil (then_n (wp_seq (wp_seq (wp_region_lit (mvv hs rfl rfl rfl fun ac hs => wpList_nil (then_n (wp_block ?_)))))))))))
 replace hs := hs.setb 3 (cs' := (tab .u32 8 (rnds (wv l) h 0))) rfl rfl
 refine wp_loop_m (fun μ ac w => ∃ (i : Nat), (64 - i) = μ ∧ (i ≤ 64) ∧ St 116 ⟨w0, [], [(true, cL ad l.length c (bcs l))], Z, X⟩ [(0, true, ptA gs 0), (4, true, ptA g1 0), (5, true, ptA g2 0), (6, true, ptA g3 0), (19, true, ni64 i)] [(true, gs, T, (tab .u32 8 h ++ sp)), (true, g1, 109, (tab .u32 64 (wv l))), (true, g2, 109, (tab .u32 64 KK)), (true, g3, 101, (tab .u32 8 (rnds (wv l) h i)))] ac w) ?_ ?_
 ·exact ⟨_, 0, rfl, (by omega), (hs.re (fs' := [(0, true, ptA gs 0), (4, true, ptA g1 0), (5, true, ptA g2 0), (6, true, ptA g3 0), (19, true, ni64 0)]) ⟨rfl, rfl, rfl, rfl, rfl, trivial⟩)⟩
 intro μ ac w ⟨i, hμ, hi, hs⟩
 refine wp_seq (wp_region_lit (bnn hs (.bool (decide (i < 64))) rfl rfl rfl rfl (bin_lssN (y := 64)) fun ac hs => wpList_nil (then_n (wp_seq (wcs hs rfl ?_ ?_)))))
 ·intro hc
  have hp4 := of_decide_eq_true hc
  have hi64 := of_decide_eq_true hc
  refine wp_skip (then_n (wp_seq (wp_block (wp_seq (wp_region_lit (mvv hs rfl rfl rfl fun ac hs => asg hs rfl rfl rfl fun ac hs => wpList_nil (then_n (wp_seq (wp_region_lit (stp (op_idxA hs none (j := 4) rfl rfl rfl rfl underlying101 sizeOf99 (by decide) (off := 4) rfl rfl fun ac hs => ?_)))))))))))
  have l5 := rnds_lt (w := wv l) (h := h) hh i 4
  refine ldd hs 3 (nu32 ((rnds (wv l) h i) 4)) isAgg99 sizeOf99 rfl rfl rfl rfl (tab_get (j := 4) (by decide)) fun ac hs => asg hs rfl rfl rfl fun ac hs => wpList_nil (then_n (wp_seq ?_))
  replace hs := hs.nf w0 Z X [0, 4, 5, 6, 19, 7, 8] rfl rfl rfl rfl
  have l6 := rnds_lt (w := wv l) (h := h) hh i 7
  obtain ⟨x7, hx7, lx7⟩ : ∃ z0, rr ((rnds (wv l) h i) 4) 6 = z0 ∧ z0 < 4294967296 := ⟨_, rfl, rr_lt (show (rnds (wv l) h i) 4 < 4294967296 by omega)⟩
  obtain ⟨x8, hx8, lx8⟩ : ∃ z0, rr ((rnds (wv l) h i) 4) 11 = z0 ∧ z0 < 4294967296 := ⟨_, rfl, rr_lt (show (rnds (wv l) h i) 4 < 4294967296 by omega)⟩
  obtain ⟨x9, hx9, lx9⟩ : ∃ z0, x7 ^^^ x8 = z0 ∧ z0 < 4294967296 := ⟨_, rfl, x32 (show x7 < 4294967296 by omega) (show x8 < 4294967296 by omega)⟩
  obtain ⟨x10, hx10, lx10⟩ : ∃ z0, rr ((rnds (wv l) h i) 4) 25 = z0 ∧ z0 < 4294967296 := ⟨_, rfl, rr_lt (show (rnds (wv l) h i) 4 < 4294967296 by omega)⟩
  obtain ⟨x11, hx11, lx11⟩ : ∃ z0, x9 ^^^ x10 = z0 ∧ z0 < 4294967296 := ⟨_, rfl, x32 (show x9 < 4294967296 by omega) (show x10 < 4294967296 by omega)⟩
  obtain ⟨x12, hx12, lx12⟩ : ∃ z0, ((rnds (wv l) h i) 7 + x11) % 4294967296 = z0 ∧ z0 < 4294967296 := ⟨_, rfl, m32 _⟩
  have l13 := rnds_lt (w := wv l) (h := h) hh i 5
  obtain ⟨x14, hx14, lx14⟩ : ∃ z0, ((rnds (wv l) h i) 4) &&& ((rnds (wv l) h i) 5) = z0 ∧ z0 < 4294967296 := ⟨_, rfl, a32 (show (rnds (wv l) h i) 5 < 4294967296 by omega)⟩
  obtain ⟨x15, hx15, lx15⟩ : ∃ z0, 4294967295 - ((rnds (wv l) h i) 4) = z0 ∧ z0 < 4294967296 := ⟨_, rfl, by omega⟩
  have l16 := rnds_lt (w := wv l) (h := h) hh i 6
  obtain ⟨x17, hx17, lx17⟩ : ∃ z0, x15 &&& ((rnds (wv l) h i) 6) = z0 ∧ z0 < 4294967296 := ⟨_, rfl, a32 (show (rnds (wv l) h i) 6 < 4294967296 by omega)⟩
  obtain ⟨x18, hx18, lx18⟩ : ∃ z0, x14 ^^^ x17 = z0 ∧ z0 < 4294967296 := ⟨_, rfl, x32 (show x14 < 4294967296 by omega) (show x17 < 4294967296 by omega)⟩
  obtain ⟨x19, hx19, lx19⟩ : ∃ z0, (x12 + x18) % 4294967296 = z0 ∧ z0 < 4294967296 := ⟨_, rfl, m32 _⟩
  have l20 := KK_lt i
  obtain ⟨x21, hx21, lx21⟩ : ∃ z0, (x19 + (KK i)) % 4294967296 = z0 ∧ z0 < 4294967296 := ⟨_, rfl, m32 _⟩
  have l22 := wv_lt l i
  obtain ⟨x23, hx23, lx23⟩ : ∃ z0, (x21 + ((wv l) i)) % 4294967296 = z0 ∧ z0 < 4294967296 := ⟨_, rfl, m32 _⟩
  refine region_inv [([], [1, 10, 21, 25, 29, 30]), ([0], [10, 21, 25, 29, 30]), ([], [3, 5, 6, 8, 9, 10, 21, 25, 29, 30]), ([2], [5, 6, 8, 9, 10, 21, 25, 29, 30]), ([], [5, 6, 8, 9, 10, 21, 25, 29, 30]), ([2, 3, 4], [6, 8, 9, 10, 21, 25, 29, 30]), (rgn 2 4, [9, 10, 21, 25, 29, 30]), ([], [8, 9, 10, 21, 25, 29, 30]), ([2, 3, 4, 5, 7], [9, 10, 21, 25, 29, 30]), (rgn 2 7, [10, 21, 25, 29, 30]), (rgn 0 10, [21, 25, 29, 30]), ([], [14, 20, 21, 25, 29, 30]), ([], [13, 14, 20, 21, 25, 29, 30]), ([12], [14, 20, 21, 25, 29, 30]), ([11, 12, 13], [20, 21, 25, 29, 30]), ([], [16, 19, 20, 21, 25, 29, 30]), ([15], [19, 20, 21, 25, 29, 30]), ([], [18, 19, 20, 21, 25, 29, 30]), ([17], [19, 20, 21, 25, 29, 30]), (rgn 15 4, [20, 21, 25, 29, 30]), (rgn 11 9, [21, 25, 29, 30]), (rgn 0 21, [25, 29, 30]), ([], [23, 24, 25, 29, 30]), ([22], [24, 25, 29, 30]), ([22, 23], [25, 29, 30]), (rgn 0 25, [29, 30]), ([], rgn 27 4), ([26], [28, 29, 30]), ([26, 27], [29, 30]), (rgn 0 29, [30]), (rgn 0 30, [])] (fun L ac w => St 116 ⟨w0, [], [(true, cL ad l.length c (bcs l))], Z, X⟩ [(24, L 0, ptA g3 7), (25, L 1, nu32 ((rnds (wv l) h i) 7)), (26, L 2, nu32 ((rnds (wv l) h i) 4)), (27, L 3, nu32 x7), (28, L 4, nu32 ((rnds (wv l) h i) 4)), (29, L 5, nu32 x8), (30, L 6, nu32 x9), (31, L 7, nu32 ((rnds (wv l) h i) 4)), (32, L 8, nu32 x10), (33, L 9, nu32 x11), (34, L 10, nu32 x12), (35, L 11, nu32 ((rnds (wv l) h i) 4)), (36, L 12, ptA g3 5), (37, L 13, nu32 ((rnds (wv l) h i) 5)), (38, L 14, nu32 x14), (39, L 15, nu32 ((rnds (wv l) h i) 4)), (40, L 16, nu32 x15), (41, L 17, ptA g3 6), (42, L 18, nu32 ((rnds (wv l) h i) 6)), (43, L 19, nu32 x17), (44, L 20, nu32 x18), (45, L 21, nu32 x19), (46, L 22, ni64 i), (47, L 23, .pointer (some ⟨g2, i, none⟩)), (48, L 24, nu32 (KK i)), (49, L 25, nu32 x21), (50, L 26, ni64 i), (51, L 27, .pointer (some ⟨g1, i, none⟩)), (52, L 28, nu32 ((wv l) i)), (53, L 29, nu32 x23), (9, L 30, nu32 x23), (0, true, ptA gs 0), (4, true, ptA g1 0), (5, true, ptA g2 0), (6, true, ptA g3 0), (19, true, ni64 i), (7, true, ni64 i), (8, true, nu32 ((rnds (wv l) h i) 4))] [(true, gs, T, (tab .u32 8 h ++ sp)), (true, g1, 109, (tab .u32 64 (wv l))), (true, g2, 109, (tab .u32 64 KK)), (true, g3, 101, (tab .u32 8 (rnds (wv l) h i)))] ac w) (by kernel_rfl) (by kernel_rfl) ?_ ?_ ?_
  ·exact hs.drew.s4.s4.s4.s4.s4.s4.s4.skip.skip.skip
  ·refine ⟨?_, ?_, ?_, ?_, ?_, ?_, ?_, ?_, ?_, ?_, ?_, ?_, ?_, ?_, ?_, ?_, ?_, ?_, ?_, ?_, ?_, ?_, ?_, ?_, ?_, ?_, ?_, ?_, ?_, ?_, ?_, trivial⟩
   ·exact fun L ac w hs => pln (op_idxA hs (some 0) (j := 7) rfl rfl rfl rfl underlying101 sizeOf99 (by decide) (off := 7) rfl rfl fun ac hs => hs)
   ·exact fun L ac w hs => pln (oldd hs 1 3 (nu32 ((rnds (wv l) h i) 7)) isAgg99 sizeOf99 rfl rfl rfl rfl (tab_get (j := 7) (by decide)) fun ac hs => hs)
   ·exact fun L ac w hs => pln (omv hs 2 rfl rfl rfl fun ac hs => hs)
   ·exact fun L ac w hs => pln (op_call (F := 86) hs (some 3) (v := nu32 x7) rfl rfl rfl rfl (call86 _) (rot_c ((rnds (wv l) h i) 4) 6 x7 (show (rnds (wv l) h i) 4 < 4294967296 by omega) (by decide) (by decide) hx7) rfl fun ac w hs => hs)
   ·exact fun L ac w hs => pln (omv hs 4 rfl rfl rfl fun ac hs => hs)
   ·exact fun L ac w hs => pln (op_call (F := 86) hs (some 5) (v := nu32 x8) rfl rfl rfl rfl (call86 _) (rot_c ((rnds (wv l) h i) 4) 11 x8 (show (rnds (wv l) h i) 4 < 4294967296 by omega) (by decide) (by decide) hx8) rfl fun ac w hs => hs)
   ·exact fun L ac w hs => pln (obn hs 6 (nu32 x9) rfl rfl rfl rfl (bin_xorN hx9 (show x7 < 4294967296 by omega) (show x8 < 4294967296 by omega) lx9) fun ac hs => hs)
   ·exact fun L ac w hs => pln (omv hs 7 rfl rfl rfl fun ac hs => hs)
   ·exact fun L ac w hs => pln (op_call (F := 86) hs (some 8) (v := nu32 x10) rfl rfl rfl rfl (call86 _) (rot_c ((rnds (wv l) h i) 4) 25 x10 (show (rnds (wv l) h i) 4 < 4294967296 by omega) (by decide) (by decide) hx10) rfl fun ac w hs => hs)
   ·exact fun L ac w hs => pln (obn hs 9 (nu32 x11) rfl rfl rfl rfl (bin_xorN hx11 (show x9 < 4294967296 by omega) (show x10 < 4294967296 by omega) lx11) fun ac hs => hs)
   ·exact fun L ac w hs => pln (obn hs 10 (nu32 x12) rfl rfl rfl rfl (bin_addM rfl hx12) fun ac hs => hs)
   ·exact fun L ac w hs => pln (omv hs 11 rfl rfl rfl fun ac hs => hs)
   ·exact fun L ac w hs => pln (op_idxA hs (some 12) (j := 5) rfl rfl rfl rfl underlying101 sizeOf99 (by decide) (off := 5) rfl rfl fun ac hs => hs)
   ·exact fun L ac w hs => pln (oldd hs 13 3 (nu32 ((rnds (wv l) h i) 5)) isAgg99 sizeOf99 rfl rfl rfl rfl (tab_get (j := 5) (by decide)) fun ac hs => hs)
   ·exact fun L ac w hs => pln (obn hs 14 (nu32 x14) rfl rfl rfl rfl (bin_andN hx14 (show (rnds (wv l) h i) 4 < 4294967296 by omega) (show (rnds (wv l) h i) 5 < 4294967296 by omega) lx14) fun ac hs => hs)
   ·exact fun L ac w hs => pln (omv hs 15 rfl rfl rfl fun ac hs => hs)
   ·exact fun L ac w hs => pln (op_un hs (some 16) (v := nu32 x15) rfl rfl rfl (fun w => hx15 ▸ un_not32 (by omega) w) rfl fun ac hs => hs)
   ·exact fun L ac w hs => pln (op_idxA hs (some 17) (j := 6) rfl rfl rfl rfl underlying101 sizeOf99 (by decide) (off := 6) rfl rfl fun ac hs => hs)
   ·exact fun L ac w hs => pln (oldd hs 18 3 (nu32 ((rnds (wv l) h i) 6)) isAgg99 sizeOf99 rfl rfl rfl rfl (tab_get (j := 6) (by decide)) fun ac hs => hs)
   ·exact fun L ac w hs => pln (obn hs 19 (nu32 x17) rfl rfl rfl rfl (bin_andN hx17 (show x15 < 4294967296 by omega) (show (rnds (wv l) h i) 6 < 4294967296 by omega) lx17) fun ac hs => hs)
   ·exact fun L ac w hs => pln (obn hs 20 (nu32 x18) rfl rfl rfl rfl (bin_xorN hx18 (show x14 < 4294967296 by omega) (show x17 < 4294967296 by omega) lx18) fun ac hs => hs)
   ·exact fun L ac w hs => pln (obn hs 21 (nu32 x19) rfl rfl rfl rfl (bin_addM rfl hx19) fun ac hs => hs)
   ·exact fun L ac w hs => pln (omv hs 22 rfl rfl rfl fun ac hs => hs)
   ·exact fun L ac w hs => pln (op_idxA hs (some 23) (j := i) rfl rfl rfl rfl underlying109 sizeOf99 (show i < 64 by omega) (off := i) (by omega) rfl fun ac hs => hs)
   ·exact fun L ac w hs => pln (oldd hs 24 2 (nu32 (KK i)) isAgg99 sizeOf99 rfl rfl rfl rfl (tab_get (j := i) (show i < 64 by omega)) fun ac hs => hs)
   ·exact fun L ac w hs => pln (obn hs 25 (nu32 x21) rfl rfl rfl rfl (bin_addM rfl hx21) fun ac hs => hs)
   ·exact fun L ac w hs => pln (omv hs 26 rfl rfl rfl fun ac hs => hs)
   ·exact fun L ac w hs => pln (op_idxA hs (some 27) (j := i) rfl rfl rfl rfl underlying109 sizeOf99 (show i < 64 by omega) (off := i) (by omega) rfl fun ac hs => hs)
   ·exact fun L ac w hs => pln (oldd hs 28 1 (nu32 ((wv l) i)) isAgg99 sizeOf99 rfl rfl rfl rfl (tab_get (j := i) (show i < 64 by omega)) fun ac hs => hs)
   ·exact fun L ac w hs => pln (obn hs 29 (nu32 x23) rfl rfl rfl rfl (bin_addM rfl hx23) fun ac hs => hs)
   ·exact fun L ac w hs => pln (oas hs 30 rfl rfl rfl fun ac hs => hs)
  intro ac w hs
  try dsimp only [cond_true] at hs
  refine then_n (wp_seq (wp_region_lit (stp (op_idxA hs none (j := 0) rfl rfl rfl rfl underlying101 sizeOf99 (by decide) (off := 0) rfl rfl fun ac hs => ?_))))
  have l24 := rnds_lt (w := wv l) (h := h) hh i 0
  refine ldd hs 3 (nu32 ((rnds (wv l) h i) 0)) isAgg99 sizeOf99 rfl rfl rfl rfl (tab_get (j := 0) (by decide)) fun ac hs => asg hs rfl rfl rfl fun ac hs => wpList_nil (then_n (wp_seq ?_))
  replace hs := hs.nf w0 Z X [0, 4, 5, 6, 19, 9, 10] rfl rfl rfl rfl
  obtain ⟨x25, hx25, lx25⟩ : ∃ z0, rr ((rnds (wv l) h i) 0) 2 = z0 ∧ z0 < 4294967296 := ⟨_, rfl, rr_lt (show (rnds (wv l) h i) 0 < 4294967296 by omega)⟩
  obtain ⟨x26, hx26, lx26⟩ : ∃ z0, rr ((rnds (wv l) h i) 0) 13 = z0 ∧ z0 < 4294967296 := ⟨_, rfl, rr_lt (show (rnds (wv l) h i) 0 < 4294967296 by omega)⟩
  obtain ⟨x27, hx27, lx27⟩ : ∃ z0, x25 ^^^ x26 = z0 ∧ z0 < 4294967296 := ⟨_, rfl, x32 (show x25 < 4294967296 by omega) (show x26 < 4294967296 by omega)⟩
  obtain ⟨x28, hx28, lx28⟩ : ∃ z0, rr ((rnds (wv l) h i) 0) 22 = z0 ∧ z0 < 4294967296 := ⟨_, rfl, rr_lt (show (rnds (wv l) h i) 0 < 4294967296 by omega)⟩
  obtain ⟨x29, hx29, lx29⟩ : ∃ z0, x27 ^^^ x28 = z0 ∧ z0 < 4294967296 := ⟨_, rfl, x32 (show x27 < 4294967296 by omega) (show x28 < 4294967296 by omega)⟩
  have l30 := rnds_lt (w := wv l) (h := h) hh i 1
  obtain ⟨x31, hx31, lx31⟩ : ∃ z0, ((rnds (wv l) h i) 0) &&& ((rnds (wv l) h i) 1) = z0 ∧ z0 < 4294967296 := ⟨_, rfl, a32 (show (rnds (wv l) h i) 1 < 4294967296 by omega)⟩
  have l32 := rnds_lt (w := wv l) (h := h) hh i 2
  obtain ⟨x33, hx33, lx33⟩ : ∃ z0, ((rnds (wv l) h i) 0) &&& ((rnds (wv l) h i) 2) = z0 ∧ z0 < 4294967296 := ⟨_, rfl, a32 (show (rnds (wv l) h i) 2 < 4294967296 by omega)⟩
  obtain ⟨x34, hx34, lx34⟩ : ∃ z0, x31 ^^^ x33 = z0 ∧ z0 < 4294967296 := ⟨_, rfl, x32 (show x31 < 4294967296 by omega) (show x33 < 4294967296 by omega)⟩
  have l35 := rnds_lt (w := wv l) (h := h) hh i 1
  have l36 := rnds_lt (w := wv l) (h := h) hh i 2
  obtain ⟨x37, hx37, lx37⟩ : ∃ z0, ((rnds (wv l) h i) 1) &&& ((rnds (wv l) h i) 2) = z0 ∧ z0 < 4294967296 := ⟨_, rfl, a32 (show (rnds (wv l) h i) 2 < 4294967296 by omega)⟩
  obtain ⟨x38, hx38, lx38⟩ : ∃ z0, x34 ^^^ x37 = z0 ∧ z0 < 4294967296 := ⟨_, rfl, x32 (show x34 < 4294967296 by omega) (show x37 < 4294967296 by omega)⟩
  obtain ⟨x39, hx39, lx39⟩ : ∃ z0, (x29 + x38) % 4294967296 = z0 ∧ z0 < 4294967296 := ⟨_, rfl, m32 _⟩
  refine region_inv [([], [1, 3, 4, 6, 7, 23, 24]), ([0], [3, 4, 6, 7, 23, 24]), ([], [3, 4, 6, 7, 23, 24]), ([0, 1, 2], [4, 6, 7, 23, 24]), (rgn 0 4, [7, 23, 24]), ([], [6, 7, 23, 24]), ([0, 1, 2, 3, 5], [7, 23, 24]), (rgn 0 7, [23, 24]), ([], [11, 16, 22, 23, 24]), ([], [10, 11, 16, 22, 23, 24]), ([9], [11, 16, 22, 23, 24]), ([8, 9, 10], [16, 22, 23, 24]), ([], [15, 16, 22, 23, 24]), ([], [14, 15, 16, 22, 23, 24]), ([13], [15, 16, 22, 23, 24]), ([12, 13, 14], [16, 22, 23, 24]), (rgn 8 8, [22, 23, 24]), ([], [18, 21, 22, 23, 24]), ([17], rgn 21 4), ([], rgn 20 5), ([19], rgn 21 4), (rgn 17 4, [22, 23, 24]), (rgn 8 14, [23, 24]), (rgn 0 23, [24]), (rgn 0 24, [])] (fun L ac w => St 116 ⟨w0, [], [(true, cL ad l.length c (bcs l))], Z, X⟩ [(56, L 0, nu32 ((rnds (wv l) h i) 0)), (57, L 1, nu32 x25), (58, L 2, nu32 ((rnds (wv l) h i) 0)), (59, L 3, nu32 x26), (60, L 4, nu32 x27), (61, L 5, nu32 ((rnds (wv l) h i) 0)), (62, L 6, nu32 x28), (63, L 7, nu32 x29), (64, L 8, nu32 ((rnds (wv l) h i) 0)), (65, L 9, ptA g3 1), (66, L 10, nu32 ((rnds (wv l) h i) 1)), (67, L 11, nu32 x31), (68, L 12, nu32 ((rnds (wv l) h i) 0)), (69, L 13, ptA g3 2), (70, L 14, nu32 ((rnds (wv l) h i) 2)), (71, L 15, nu32 x33), (72, L 16, nu32 x34), (73, L 17, ptA g3 1), (74, L 18, nu32 ((rnds (wv l) h i) 1)), (75, L 19, ptA g3 2), (76, L 20, nu32 ((rnds (wv l) h i) 2)), (77, L 21, nu32 x37), (78, L 22, nu32 x38), (79, L 23, nu32 x39), (11, L 24, nu32 x39), (0, true, ptA gs 0), (4, true, ptA g1 0), (5, true, ptA g2 0), (6, true, ptA g3 0), (19, true, ni64 i), (9, true, nu32 x23), (10, true, nu32 ((rnds (wv l) h i) 0))] [(true, gs, T, (tab .u32 8 h ++ sp)), (true, g1, 109, (tab .u32 64 (wv l))), (true, g2, 109, (tab .u32 64 KK)), (true, g3, 101, (tab .u32 8 (rnds (wv l) h i)))] ac w) (by kernel_rfl) (by kernel_rfl) ?_ ?_ ?_
  ·exact hs.drew.s4.s4.s4.s4.s4.s4.skip
  ·refine ⟨?_, ?_, ?_, ?_, ?_, ?_, ?_, ?_, ?_, ?_, ?_, ?_, ?_, ?_, ?_, ?_, ?_, ?_, ?_, ?_, ?_, ?_, ?_, ?_, ?_, trivial⟩
   ·exact fun L ac w hs => pln (omv hs 0 rfl rfl rfl fun ac hs => hs)
   ·exact fun L ac w hs => pln (op_call (F := 86) hs (some 1) (v := nu32 x25) rfl rfl rfl rfl (call86 _) (rot_c ((rnds (wv l) h i) 0) 2 x25 (show (rnds (wv l) h i) 0 < 4294967296 by omega) (by decide) (by decide) hx25) rfl fun ac w hs => hs)
   ·exact fun L ac w hs => pln (omv hs 2 rfl rfl rfl fun ac hs => hs)
   ·exact fun L ac w hs => pln (op_call (F := 86) hs (some 3) (v := nu32 x26) rfl rfl rfl rfl (call86 _) (rot_c ((rnds (wv l) h i) 0) 13 x26 (show (rnds (wv l) h i) 0 < 4294967296 by omega) (by decide) (by decide) hx26) rfl fun ac w hs => hs)
   ·exact fun L ac w hs => pln (obn hs 4 (nu32 x27) rfl rfl rfl rfl (bin_xorN hx27 (show x25 < 4294967296 by omega) (show x26 < 4294967296 by omega) lx27) fun ac hs => hs)
   ·exact fun L ac w hs => pln (omv hs 5 rfl rfl rfl fun ac hs => hs)
   ·exact fun L ac w hs => pln (op_call (F := 86) hs (some 6) (v := nu32 x28) rfl rfl rfl rfl (call86 _) (rot_c ((rnds (wv l) h i) 0) 22 x28 (show (rnds (wv l) h i) 0 < 4294967296 by omega) (by decide) (by decide) hx28) rfl fun ac w hs => hs)
   ·exact fun L ac w hs => pln (obn hs 7 (nu32 x29) rfl rfl rfl rfl (bin_xorN hx29 (show x27 < 4294967296 by omega) (show x28 < 4294967296 by omega) lx29) fun ac hs => hs)
   ·exact fun L ac w hs => pln (omv hs 8 rfl rfl rfl fun ac hs => hs)
   ·exact fun L ac w hs => pln (op_idxA hs (some 9) (j := 1) rfl rfl rfl rfl underlying101 sizeOf99 (by decide) (off := 1) rfl rfl fun ac hs => hs)
   ·exact fun L ac w hs => pln (oldd hs 10 3 (nu32 ((rnds (wv l) h i) 1)) isAgg99 sizeOf99 rfl rfl rfl rfl (tab_get (j := 1) (by decide)) fun ac hs => hs)
   ·exact fun L ac w hs => pln (obn hs 11 (nu32 x31) rfl rfl rfl rfl (bin_andN hx31 (show (rnds (wv l) h i) 0 < 4294967296 by omega) (show (rnds (wv l) h i) 1 < 4294967296 by omega) lx31) fun ac hs => hs)
   ·exact fun L ac w hs => pln (omv hs 12 rfl rfl rfl fun ac hs => hs)
   ·exact fun L ac w hs => pln (op_idxA hs (some 13) (j := 2) rfl rfl rfl rfl underlying101 sizeOf99 (by decide) (off := 2) rfl rfl fun ac hs => hs)
   ·exact fun L ac w hs => pln (oldd hs 14 3 (nu32 ((rnds (wv l) h i) 2)) isAgg99 sizeOf99 rfl rfl rfl rfl (tab_get (j := 2) (by decide)) fun ac hs => hs)
   ·exact fun L ac w hs => pln (obn hs 15 (nu32 x33) rfl rfl rfl rfl (bin_andN hx33 (show (rnds (wv l) h i) 0 < 4294967296 by omega) (show (rnds (wv l) h i) 2 < 4294967296 by omega) lx33) fun ac hs => hs)
   ·exact fun L ac w hs => pln (obn hs 16 (nu32 x34) rfl rfl rfl rfl (bin_xorN hx34 (show x31 < 4294967296 by omega) (show x33 < 4294967296 by omega) lx34) fun ac hs => hs)
   ·exact fun L ac w hs => pln (op_idxA hs (some 17) (j := 1) rfl rfl rfl rfl underlying101 sizeOf99 (by decide) (off := 1) rfl rfl fun ac hs => hs)
   ·exact fun L ac w hs => pln (oldd hs 18 3 (nu32 ((rnds (wv l) h i) 1)) isAgg99 sizeOf99 rfl rfl rfl rfl (tab_get (j := 1) (by decide)) fun ac hs => hs)
   ·exact fun L ac w hs => pln (op_idxA hs (some 19) (j := 2) rfl rfl rfl rfl underlying101 sizeOf99 (by decide) (off := 2) rfl rfl fun ac hs => hs)
   ·exact fun L ac w hs => pln (oldd hs 20 3 (nu32 ((rnds (wv l) h i) 2)) isAgg99 sizeOf99 rfl rfl rfl rfl (tab_get (j := 2) (by decide)) fun ac hs => hs)
   ·exact fun L ac w hs => pln (obn hs 21 (nu32 x37) rfl rfl rfl rfl (bin_andN hx37 (show (rnds (wv l) h i) 1 < 4294967296 by omega) (show (rnds (wv l) h i) 2 < 4294967296 by omega) lx37) fun ac hs => hs)
   ·exact fun L ac w hs => pln (obn hs 22 (nu32 x38) rfl rfl rfl rfl (bin_xorN hx38 (show x34 < 4294967296 by omega) (show x37 < 4294967296 by omega) lx38) fun ac hs => hs)
   ·exact fun L ac w hs => pln (obn hs 23 (nu32 x39) rfl rfl rfl rfl (bin_addM rfl hx39) fun ac hs => hs)
   ·exact fun L ac w hs => pln (oas hs 24 rfl rfl rfl fun ac hs => hs)
  intro ac w hs
  try dsimp only [cond_true] at hs
  refine then_n (wp_region_lit (mvv hs rfl rfl rfl fun ac hs => mvv hs rfl rfl rfl fun ac hs => ?_))
  obtain ⟨x40, hx40, lx40⟩ : ∃ z0, (x23 + x39) % 4294967296 = z0 ∧ z0 < 4294967296 := ⟨_, rfl, m32 _⟩
  refine bnn hs (nu32 x40) rfl rfl rfl rfl (bin_addM rfl hx40) fun ac hs => stp (op_idxA hs none (j := 0) rfl rfl rfl rfl underlying101 sizeOf99 (by decide) (off := 0) rfl rfl fun ac hs => ?_)
  have l41 := rnds_lt (w := wv l) (h := h) hh i 0
  refine ldd hs 3 (nu32 ((rnds (wv l) h i) 0)) isAgg99 sizeOf99 rfl rfl rfl rfl (tab_get (j := 0) (by decide)) fun ac hs => stp (op_idxA hs none (j := 1) rfl rfl rfl rfl underlying101 sizeOf99 (by decide) (off := 1) rfl rfl fun ac hs => ?_)
  have l42 := rnds_lt (w := wv l) (h := h) hh i 1
  refine ldd hs 3 (nu32 ((rnds (wv l) h i) 1)) isAgg99 sizeOf99 rfl rfl rfl rfl (tab_get (j := 1) (by decide)) fun ac hs => stp (op_idxA hs none (j := 2) rfl rfl rfl rfl underlying101 sizeOf99 (by decide) (off := 2) rfl rfl fun ac hs => ?_)
  have l43 := rnds_lt (w := wv l) (h := h) hh i 2
  refine ldd hs 3 (nu32 ((rnds (wv l) h i) 2)) isAgg99 sizeOf99 rfl rfl rfl rfl (tab_get (j := 2) (by decide)) fun ac hs => stp (op_idxA hs none (j := 3) rfl rfl rfl rfl underlying101 sizeOf99 (by decide) (off := 3) rfl rfl fun ac hs => ?_)
  have l44 := rnds_lt (w := wv l) (h := h) hh i 3
  refine ldd hs 3 (nu32 ((rnds (wv l) h i) 3)) isAgg99 sizeOf99 rfl rfl rfl rfl (tab_get (j := 3) (by decide)) fun ac hs => mvv hs rfl rfl rfl fun ac hs => ?_
  obtain ⟨x45, hx45, lx45⟩ : ∃ z0, ((rnds (wv l) h i) 3 + x23) % 4294967296 = z0 ∧ z0 < 4294967296 := ⟨_, rfl, m32 _⟩
  refine bnn hs (nu32 x45) rfl rfl rfl rfl (bin_addM rfl hx45) fun ac hs => stp (op_idxA hs none (j := 4) rfl rfl rfl rfl underlying101 sizeOf99 (by decide) (off := 4) rfl rfl fun ac hs => ?_)
  have l46 := rnds_lt (w := wv l) (h := h) hh i 4
  refine ldd hs 3 (nu32 ((rnds (wv l) h i) 4)) isAgg99 sizeOf99 rfl rfl rfl rfl (tab_get (j := 4) (by decide)) fun ac hs => stp (op_idxA hs none (j := 5) rfl rfl rfl rfl underlying101 sizeOf99 (by decide) (off := 5) rfl rfl fun ac hs => ?_)
  have l47 := rnds_lt (w := wv l) (h := h) hh i 5
  refine ldd hs 3 (nu32 ((rnds (wv l) h i) 5)) isAgg99 sizeOf99 rfl rfl rfl rfl (tab_get (j := 5) (by decide)) fun ac hs => stp (op_idxA hs none (j := 6) rfl rfl rfl rfl underlying101 sizeOf99 (by decide) (off := 6) rfl rfl fun ac hs => ?_)
  have l48 := rnds_lt (w := wv l) (h := h) hh i 6
  refine ldd hs 3 (nu32 ((rnds (wv l) h i) 6)) isAgg99 sizeOf99 rfl rfl rfl rfl (tab_get (j := 6) (by decide)) fun ac hs => stp (op_build hs none (qs := [(0, nu32 x40), (1, nu32 ((rnds (wv l) h i) 0)), (2, nu32 ((rnds (wv l) h i) 1)), (3, nu32 ((rnds (wv l) h i) 2)), (4, nu32 x45), (5, nu32 ((rnds (wv l) h i) 4)), (6, nu32 ((rnds (wv l) h i) 5)), (7, nu32 ((rnds (wv l) h i) 6))]) (v := At .u32 8 (ft8 x40 ((rnds (wv l) h i) 0) ((rnds (wv l) h i) 1) ((rnds (wv l) h i) 2) x45 ((rnds (wv l) h i) 4) ((rnds (wv l) h i) 5) ((rnds (wv l) h i) 6))) rfl rfl rfl rfl (fun _ => by kernel_rfl) rfl fun ac hs => stp (stoo hs 3 ((tab .u32 8 (ft8 x40 ((rnds (wv l) h i) 0) ((rnds (wv l) h i) 1) ((rnds (wv l) h i) 2) x45 ((rnds (wv l) h i) 4) ((rnds (wv l) h i) 5) ((rnds (wv l) h i) 6)))) sizeOf101 rfl rfl rfl rfl rfl (by kernel_rfl) tab_length' (tab_one _ _ _) tab_leA wr_tab fun w hs => wpList_nil (blk_n (then_n ?_))))
  replace hs := hs.nf w0 Z X [0, 4, 5, 6, 19] rfl rfl rfl rfl
  refine wp_region_lit (bnn hs (ni64 (i + 1)) rfl rfl rfl rfl (bin_addN (y := 1) rfl (show i + 1 < 9223372036854775808 by omega)) fun ac hs => mvv hs rfl rfl rfl fun ac hs => wpList_nil (then_n ?_))
  replace hs := hs.setb 3 (cs' := (tab .u32 8 (rnds (wv l) h (i + 1)))) rfl (congrArg (tab .u32 8) (show ft8 x40 ((rnds (wv l) h i) 0) ((rnds (wv l) h i) 1) ((rnds (wv l) h i) 2) x45 ((rnds (wv l) h i) 4) ((rnds (wv l) h i) 5) ((rnds (wv l) h i) 6) = rnd (KK i) (wv l i) (rnds (wv l) h i) by simp only [rnd, t1v, t2v, hx7, hx8, hx9, hx10, hx11, hx12, hx14, hx15, hx17, hx18, hx19, hx21, hx23, hx25, hx26, hx27, hx28, hx29, hx31, hx33, hx34, hx37, hx38, hx39, hx40, hx45]))
  exact ⟨_, ⟨(i + 1), rfl, (by omega), (hs.re (fs' := [(0, true, ptA gs 0), (4, true, ptA g1 0), (5, true, ptA g2 0), (6, true, ptA g3 0), (19, true, ni64 ((i + 1)))]) ⟨rfl, rfl, rfl, rfl, rfl, trivial⟩)⟩, (by omega)⟩
 intro hc
 have hp49 := of_decide_eq_false hc
 obtain rfl : i = 64 := by have := of_decide_eq_false hc; omega
 replace hs := hs.setb 3 (cs' := (tab .u32 8 (rnds (wv l) h 64))) rfl rfl
 refine wp_exit (then_e (then_e (blk_e (then_n (wp_seq (wp_region_lit (mvv hs rfl rfl rfl fun ac hs => wpList_nil (then_n (wp_block ?_)))))))))
 replace hs := hs.setb 0 (cs' := (tab .u32 8 (addT h (rnds (wv l) h 64) 0) ++ sp)) rfl (tabs_ext fun j hj => addT_zero _ _ j)
 refine wp_loop_m (fun μ ac w => ∃ (i : Nat), (8 - i) = μ ∧ (i ≤ 8) ∧ St 116 ⟨w0, [], [(true, cL ad l.length c (bcs l))], Z, X⟩ [(0, true, ptA gs 0), (6, true, ptA g3 0), (101, true, ni64 i)] [(true, gs, T, (tab .u32 8 (addT h (rnds (wv l) h 64) i) ++ sp)), (true, g1, 109, (tab .u32 64 (wv l))), (true, g2, 109, (tab .u32 64 KK)), (true, g3, 101, (tab .u32 8 (rnds (wv l) h 64)))] ac w) ?_ ?_
 ·exact ⟨_, 0, rfl, (by omega), (hs.re (fs' := [(0, true, ptA gs 0), (6, true, ptA g3 0), (101, true, ni64 0)]) ⟨rfl, rfl, rfl, trivial⟩)⟩
 intro μ ac w ⟨i, hμ, hi, hs⟩
 refine wp_seq (wp_region_lit (bnn hs (.bool (decide (i < 8))) rfl rfl rfl rfl (bin_lssN (y := 8)) fun ac hs => wpList_nil (then_n (wp_seq (wcs hs rfl ?_ ?_)))))
 ·intro hc
  have hp50 := of_decide_eq_true hc
  have hi8 := of_decide_eq_true hc
  refine wp_skip (then_n (wp_seq (wp_block (wp_seq (wp_region_lit (mvv hs rfl rfl rfl fun ac hs => asg hs rfl rfl rfl fun ac hs => wpList_nil (then_n ?_)))))))
  replace hs := hs.nf w0 Z X [0, 6, 101, 12] rfl rfl rfl rfl
  have l51 := addT_lt (v := rnds (wv l) h 64) hh i i
  have l52 := rnds_lt (w := wv l) (h := h) hh 64 i
  obtain ⟨x53, hx53, lx53⟩ : ∃ z0, ((addT h (rnds (wv l) h 64) i) i + ((rnds (wv l) h 64) i)) % 4294967296 = z0 ∧ z0 < 4294967296 := ⟨_, rfl, m32 _⟩
  refine region_inv [([], [2, 3, 4, 8, 9, 10, 11]), ([], [3, 4, 8, 10, 11]), ([0], [3, 4, 8, 10, 11]), ([0, 1, 2], [4, 8, 10, 11]), (rgn 0 4, [8, 10, 11]), ([], [6, 7, 8, 10, 11]), ([5], [7, 8, 10, 11]), ([5, 6], [8, 10, 11]), (rgn 0 8, [10, 11]), ([0], [10, 11]), (rgn 0 10, [11]), (rgn 0 11, [])] (fun L ac w => St 116 ⟨w0, [], [(true, cL ad l.length c (bcs l))], Z, X⟩ [(104, L 0, ptA gs 0), (105, L 1, ni64 i), (106, L 2, ptA gs 0), (107, L 3, .pointer (some ⟨gs, i, none⟩)), (108, L 4, .int .u32 (((addT h (rnds (wv l) h 64) i) i : Nat) : Int)), (109, L 5, ni64 i), (110, L 6, .pointer (some ⟨g3, i, none⟩)), (111, L 7, nu32 ((rnds (wv l) h 64) i)), (112, L 8, nu32 x53), (113, L 9, ptA gs 0), (114, L 10, .pointer (some ⟨gs, i, none⟩)), (0, true, ptA gs 0), (6, true, ptA g3 0), (101, true, ni64 i), (12, true, ni64 i)] [(true, gs, T, (cond (L 11) (tab .u32 8 (upn (addT h (rnds (wv l) h 64) i) i x53) ++ sp) (tab .u32 8 (addT h (rnds (wv l) h 64) i) ++ sp))), (true, g1, 109, (tab .u32 64 (wv l))), (true, g2, 109, (tab .u32 64 KK)), (true, g3, 101, (tab .u32 8 (rnds (wv l) h 64)))] ac w) (by kernel_rfl) (by kernel_rfl) ?_ ?_ ?_
  ·exact hs.drew.s4.s4.skip.skip.skip
  ·refine ⟨?_, ?_, ?_, ?_, ?_, ?_, ?_, ?_, ?_, ?_, ?_, ?_, trivial⟩
   ·exact fun L ac w hs => pln (omv hs 0 rfl rfl rfl fun ac hs => hs)
   ·exact fun L ac w hs => pln (omv hs 1 rfl rfl rfl fun ac hs => hs)
   ·exact fun L ac w hs => pln (op_nilCheck hs (some 2) rfl rfl rfl rfl fun ac hs => hs)
   ·exact fun L ac w hs => pln (op_idxA hs (some 3) (j := i) rfl rfl rfl rfl underlying101 sizeOf99 (show i < 8 by omega) (off := i) (by omega) rfl fun ac hs => hs)
   ·exact fun L ac w hs => pln (oldd hs 4 0 (.int .u32 (((addT h (rnds (wv l) h 64) i) i : Nat) : Int)) isAgg99 sizeOf99 rfl rfl rfl rfl (tabs_get (j := i) (show i < 8 by omega)) fun ac hs => hs)
   ·exact fun L ac w hs => pln (omv hs 5 rfl rfl rfl fun ac hs => hs)
   ·exact fun L ac w hs => pln (op_idxA hs (some 6) (j := i) rfl rfl rfl rfl underlying101 sizeOf99 (show i < 8 by omega) (off := i) (by omega) rfl fun ac hs => hs)
   ·exact fun L ac w hs => pln (oldd hs 7 3 (nu32 ((rnds (wv l) h 64) i)) isAgg99 sizeOf99 rfl rfl rfl rfl (tab_get (j := i) (show i < 8 by omega)) fun ac hs => hs)
   ·exact fun L ac w hs => pln (obn hs 8 (nu32 x53) rfl rfl rfl rfl (bin_addM rfl hx53) fun ac hs => hs)
   ·exact fun L ac w hs => pln (op_nilCheck hs (some 9) rfl rfl rfl rfl fun ac hs => hs)
   ·exact fun L ac w hs => pln (op_idxA hs (some 10) (j := i) rfl rfl rfl rfl underlying101 sizeOf99 (show i < 8 by omega) (off := i) (by omega) rfl fun ac hs => hs)
   ·exact fun L ac w hs => pln (stoo hs 0 ([nu32 x53]) sizeOf99 rfl rfl rfl rfl rfl rfl rfl rfl (tabs_le (j := i) (show i < 8 by omega)) (tabs_set (j := i) (show i < 8 by omega)) fun w hs => hs)
  intro ac w hs
  try dsimp only [cond_true] at hs
  refine blk_n (then_n (wp_region_lit (bnn hs (ni64 (i + 1)) rfl rfl rfl rfl (bin_addN (y := 1) rfl (show i + 1 < 9223372036854775808 by omega)) fun ac hs => mvv hs rfl rfl rfl fun ac hs => wpList_nil (then_n ?_))))
  replace hs := hs.setb 0 (cs' := (tab .u32 8 (addT h (rnds (wv l) h 64) (i + 1)) ++ sp)) rfl (tabs_ext fun j hj => addT_step (by rw [← hx53, addT_at]) j)
  exact ⟨_, ⟨(i + 1), rfl, (by omega), (hs.re (fs' := [(0, true, ptA gs 0), (6, true, ptA g3 0), (101, true, ni64 ((i + 1)))]) ⟨rfl, rfl, rfl, trivial⟩)⟩, (by omega)⟩
 intro hc
 have hp54 := of_decide_eq_false hc
 obtain rfl : i = 8 := by have := of_decide_eq_false hc; omega
 replace hs := hs.setb 0 (cs' := (tab .u32 8 (blk h l) ++ sp)) rfl (tabs_ext fun j hj => addT_end hj)
 refine wp_exit (then_e (then_e (blk_e ?_)))
 exact bodyPost_end (res0 rfl) hs.defers ⟨(), rfl, ((hs.selS [0] rfl (by decide)).selB [0] rfl (by decide)).mem⟩
theorem new_c  (w0 : World) (Z X : Nat → Prop) (hm : Mem ⟨w0, [], [], Z, X⟩ [] w0) : Calls prog 68 #[] w0 fun e w' => PostX w0 Z X (ρ := Nat) (fun r => ptA r 0) (fun r => [(true, r, 104, tab .u32 8 HH0 ++ ([.slice none 0 0, nu64 0] : List Value))]) (fun r => []) e w' := by
 refine enterX (n := 4) (args := []) func68 rfl rfl (Nat.le_of_ble_eq_true rfl) hm fun ac hs => wp_seq (wp_region_lit (asg hs rfl rfl rfl fun ac hs => wpList_nil (then_n (wp_seq (wp_region_lit (stp (op_call (F := 79) hs none (v := At .u32 8 HH0) rfl rfl rfl rfl (call79 _) firsts_c rfl fun ac w hs => stp (op_build hs none (qs := [(0, At .u32 8 HH0)]) (v := .agg (tab .u32 8 HH0 ++ ([.slice none 0 0, .int .u64 0] : List Value)).toArray) rfl rfl rfl rfl (fun _ => by kernel_rfl) rfl fun ac hs => stp (op_box hs none none (cs := (tab .u32 8 HH0 ++ ([.slice none 0 0, .int .u64 0] : List Value))) rfl rfl rfl rfl rfl rfl fun g1 ac w hs => asg hs rfl rfl rfl fun ac hs => wpList_nil (then_n (wp_ret ?_)))))))))))
 exact bodyPost_ret (res1 rfl (rv_t hs rfl)) hs.defers ⟨g1, rfl, ((hs.selS [] rfl (by decide)).selB [0] rfl (by decide)).mem⟩
end Go.Proofs.Ytikkhkjndbicgaa

/- SHA-256: the program's, the document's. -/
namespace Go.Proofs.Ytikkhkjndbicgaa
open Go.RowKit _root_.Go.Proofs.Try
set_option maxRecDepth 10000
set_option maxHeartbeats 1000000
theorem rst0 : 0 = (rst []).length ∧ bcs [] = bcs (rst []) := ⟨by rw [rst_end (by decide)]; rfl, by rw [rst_end (by decide)]⟩
theorem hash0 : tab .u32 8 HH0 ++ ([.slice none 0 0, nu64 0] : List Value) = tab .u32 8 (blks HH0 []) ++ ([.slice none (rst []).length 0, nu64 (([] : List UInt8).length)] : List Value) := by
 rw [blks_end (by decide), rst_end (by decide)]; rfl
theorem write_c (gh : Nat) (ar : Option Addr) (cr : Nat) (m : List UInt8) (ab : Option Addr) (cb : Nat) (b : List UInt8) (hmb : m.length + b.length ≤ 900000) (w0 : World) (Z X : Nat → Prop) (hm : Mem ⟨w0, [], [(true, cL ar ((rst m).length) cr (bcs (rst m))), (true, cL ab b.length cb (bcs b))], Z, X⟩ [(true, gh, 104, (tab .u32 8 (blks HH0 m) ++ ([.slice ar ((rst m).length) cr, nu64 (m.length)] : List Value)))] w0) : Calls prog 69 #[ptA gh 0, .slice ab b.length cb] w0 fun e w' => PostX w0 Z X (ρ := Option Addr × Nat) (fun r => .tuple #[]) (fun r => [(true, gh, 104, tab .u32 8 (blks HH0 (m ++ b)) ++ ([.slice r.1 (rst (m ++ b)).length r.2, nu64 ((m ++ b).length)] : List Value))]) (fun r => [(true, cL r.1 (rst (m ++ b)).length r.2 (bcs (rst (m ++ b)))), (true, cL ab b.length cb (bcs b))]) e w' := by
 have hrl := rst_lt m
 refine enterX (n := 59) (args := [ptA gh 0, .slice ab b.length cb]) func69 rfl rfl (Nat.le_of_ble_eq_true rfl) hm fun ac hs => wp_seq (wp_seq (wp_region_lit (mvv hs rfl rfl rfl fun ac hs => bnn hs (.bool false) rfl rfl rfl rfl (bin_eqlP0 underlying90) fun ac hs => wpList_nil (then_n (wp_cond_false (hs.ev rfl) (wp_skip (then_n (wp_seq (wp_region_lit (mvv hs rfl rfl rfl fun ac hs => stp (op_nilCheck hs none rfl rfl rfl rfl fun ac hs => stp (op_fieldA hs none rfl rfl rfl underlying104 rfl sizeOf86 (by decide) rfl fun ac hs => ?_))))))))))))
 refine ldd hs 0 (nu64 (m.length)) isAgg86 sizeOf86 rfl rfl rfl rfl (tabs_tail (i := 1) rfl rfl) fun ac hs => mvv hs rfl rfl rfl fun ac hs => stp (op_blt hs none (v := ni64 (b.length)) rfl rfl rfl (blt_len underlying34) rfl fun ac hs => stp (op_convert hs none (v := nu64 (b.length)) rfl rfl rfl (conv_N underlying3 underlying86 (show b.length < 18446744073709551616 by omega)) rfl fun ac hs => bnn hs (nu64 (m.length + b.length)) rfl rfl rfl rfl (bin_addN rfl (show m.length + b.length < 18446744073709551616 by omega)) fun ac hs => stp (op_nilCheck hs none rfl rfl rfl rfl fun ac hs => stp (op_fieldA hs none rfl rfl rfl underlying104 rfl sizeOf86 (by decide) rfl fun ac hs => stp (stoo hs 0 ([nu64 (m.length + b.length)]) sizeOf86 rfl rfl rfl rfl rfl rfl rfl rfl (tabs_tle (i := 1) rfl (Nat.le_of_ble_eq_true rfl)) (tabs_wr (i := 1) rfl rfl) fun w hs => wpList_nil (then_n (wp_seq ?_)))))))
 replace hs := hs.nf w0 Z X [0, 1] rfl rfl rfl rfl
 refine region_inv [([], [18, 19, 20]), ([], [2, 3, 4, 15, 17, 18, 19, 20]), ([1], [3, 4, 15, 17, 18, 19, 20]), ([1, 2], [4, 15, 17, 18, 19, 20]), ([1, 2, 3], [15, 17, 18, 19, 20]), ([], [6, 7, 8, 9, 15, 17, 18, 19, 20]), ([5], [7, 8, 9, 15, 17, 18, 19, 20]), ([5, 6], [8, 9, 15, 17, 18, 19, 20]), ([5, 6, 7], [9, 15, 17, 18, 19, 20]), (rgn 5 4, [15, 17, 18, 19, 20]), ([], [11, 12, 13, 14, 15, 17, 18, 19, 20]), ([10], [12, 13, 14, 15, 17, 18, 19, 20]), ([10, 11], [13, 14, 15, 17, 18, 19, 20]), ([10, 11, 12], [14, 15, 17, 18, 19, 20]), (rgn 10 4, [15, 17, 18, 19, 20]), (rgn 1 14, rgn 17 4), ([], rgn 17 4), (rgn 1 16, [18, 19, 20]), (rgn 0 18, [19, 20]), (rgn 0 19, [20]), (rgn 0 20, [])] (fun L ac w => ∃ (ad1 : Option Addr) (cp2 : Nat), St 59 ⟨w0, [], [(true, cL ar ((rst m).length) cr (bcs (rst m))), (true, cL ab b.length cb (bcs b)), (L 15, cL (vsa ar ((rst m).length) 1 0) ((rst m).length - 0) ((rst m).length - 0) (bcs (rst m))), (L 17, cL ad1 ((rst m ++ b).length) cp2 (bcs (rst m ++ b)))], Z, X⟩ [(16, L 0, ptA gh 0), (17, L 1, ptA gh 0), (18, L 2, ptA gh 0), (19, L 3, ptA gh 8), (20, L 4, .slice ar ((rst m).length) cr), (21, L 5, ptA gh 0), (22, L 6, ptA gh 0), (23, L 7, ptA gh 8), (24, L 8, .slice ar ((rst m).length) cr), (25, L 9, ni64 ((rst m).length)), (26, L 10, ptA gh 0), (27, L 11, ptA gh 0), (28, L 12, ptA gh 8), (29, L 13, .slice ar ((rst m).length) cr), (30, L 14, ni64 ((rst m).length)), (31, L 15, .slice (vsa ar ((rst m).length) 1 0) ((rst m).length - 0) ((rst m).length - 0)), (32, L 16, .slice ab b.length cb), (33, L 17, .slice ad1 ((rst m ++ b).length) cp2), (34, L 18, ptA gh 0), (35, L 19, ptA gh 8), (0, true, ptA gh 0), (1, true, .slice ab b.length cb)] [(true, gh, 104, (cond (L 20) (tab .u32 8 (blks HH0 m) ++ ([.slice ad1 ((rst m ++ b).length) cp2, nu64 (m.length + b.length)] : List Value)) (tab .u32 8 (blks HH0 m) ++ ([.slice ar ((rst m).length) cr, nu64 (m.length + b.length)] : List Value))))] ac w) (by kernel_rfl) (by kernel_rfl) ?_ ?_ ?_
 ·exact ⟨none, 0, hs.drew.s4.s4.s4.s4.s4.padS.padS⟩
 ·refine ⟨?_, ?_, ?_, ?_, ?_, ?_, ?_, ?_, ?_, ?_, ?_, ?_, ?_, ?_, ?_, ?_, ?_, ?_, ?_, ?_, ?_, trivial⟩
  ·exact fun L ac w ⟨ad1, cp2, hs⟩ => pln (omv hs 0 rfl rfl rfl fun ac hs => ⟨ad1, cp2, hs⟩)
  ·exact fun L ac w ⟨ad1, cp2, hs⟩ => pln (omv hs 1 rfl rfl rfl fun ac hs => ⟨ad1, cp2, hs⟩)
  ·exact fun L ac w ⟨ad1, cp2, hs⟩ => pln (op_nilCheck hs (some 2) rfl rfl rfl rfl fun ac hs => ⟨ad1, cp2, hs⟩)
  ·exact fun L ac w ⟨ad1, cp2, hs⟩ => pln (op_fieldA hs (some 3) rfl rfl rfl underlying104 rfl sizeOf34 (by decide) rfl fun ac hs => ⟨ad1, cp2, hs⟩)
  ·exact fun L ac w ⟨ad1, cp2, hs⟩ => pln (oldd hs 4 0 (.slice ar ((rst m).length) cr) isAgg34 sizeOf34 rfl rfl rfl rfl (tabs_tail (i := 0) rfl rfl) fun ac hs => ⟨ad1, cp2, hs⟩)
  ·exact fun L ac w ⟨ad1, cp2, hs⟩ => pln (omv hs 5 rfl rfl rfl fun ac hs => ⟨ad1, cp2, hs⟩)
  ·exact fun L ac w ⟨ad1, cp2, hs⟩ => pln (op_nilCheck hs (some 6) rfl rfl rfl rfl fun ac hs => ⟨ad1, cp2, hs⟩)
  ·exact fun L ac w ⟨ad1, cp2, hs⟩ => pln (op_fieldA hs (some 7) rfl rfl rfl underlying104 rfl sizeOf34 (by decide) rfl fun ac hs => ⟨ad1, cp2, hs⟩)
  ·exact fun L ac w ⟨ad1, cp2, hs⟩ => pln (oldd hs 8 0 (.slice ar ((rst m).length) cr) isAgg34 sizeOf34 rfl rfl rfl rfl (tabs_tail (i := 0) rfl rfl) fun ac hs => ⟨ad1, cp2, hs⟩)
  ·exact fun L ac w ⟨ad1, cp2, hs⟩ => pln (op_blt hs (some 9) (v := ni64 ((rst m).length)) rfl rfl rfl (blt_len underlying34) rfl fun ac hs => ⟨ad1, cp2, hs⟩)
  ·exact fun L ac w ⟨ad1, cp2, hs⟩ => pln (omv hs 10 rfl rfl rfl fun ac hs => ⟨ad1, cp2, hs⟩)
  ·exact fun L ac w ⟨ad1, cp2, hs⟩ => pln (op_nilCheck hs (some 11) rfl rfl rfl rfl fun ac hs => ⟨ad1, cp2, hs⟩)
  ·exact fun L ac w ⟨ad1, cp2, hs⟩ => pln (op_fieldA hs (some 12) rfl rfl rfl underlying104 rfl sizeOf34 (by decide) rfl fun ac hs => ⟨ad1, cp2, hs⟩)
  ·exact fun L ac w ⟨ad1, cp2, hs⟩ => pln (oldd hs 13 0 (.slice ar ((rst m).length) cr) isAgg34 sizeOf34 rfl rfl rfl rfl (tabs_tail (i := 0) rfl rfl) fun ac hs => ⟨ad1, cp2, hs⟩)
  ·exact fun L ac w ⟨ad1, cp2, hs⟩ => pln (op_blt hs (some 14) (v := ni64 ((rst m).length)) rfl rfl rfl (blt_len underlying34) rfl fun ac hs => ⟨ad1, cp2, hs⟩)
  ·exact fun L ac w ⟨ad1, cp2, hs⟩ => pln (op_slice3B hs (some 15) (some 2) 0 ((rst m).length) (l := rst m) rfl rfl rfl rfl rfl rfl underlying34 sizeOf5 rfl rfl rfl fun ac hs => ⟨ad1, cp2, hs⟩)
  ·exact fun L ac w ⟨ad1, cp2, hs⟩ => pln (omv hs 16 rfl rfl rfl fun ac hs => ⟨ad1, cp2, hs⟩)
  ·exact fun L ac w ⟨ad1, cp2, hs⟩ => pln (op_appF hs (some 17) (some 3) 2 1 (N' := (rst m ++ b).length) (ys := bcs (rst m ++ b)) rfl rfl rfl rfl rfl rfl underlying34 inf_u8_5 rfl (by decide) (bcs_len1 rfl) (bcs_len1 rfl) (bcs_one _) (by decide) (show (rst m).length - 0 + b.length ≤ 1000000 by omega) (by simp only [List.length_append] <;> omega) (bcs_append _ _) rfl rfl fun ad1 cp2 ac w hs => ⟨ad1, cp2, hs⟩)
  ·exact fun L ac w ⟨ad1, cp2, hs⟩ => pln (op_nilCheck hs (some 18) rfl rfl rfl rfl fun ac hs => ⟨ad1, cp2, hs⟩)
  ·exact fun L ac w ⟨ad1, cp2, hs⟩ => pln (op_fieldA hs (some 19) rfl rfl rfl underlying104 rfl sizeOf34 (by decide) rfl fun ac hs => ⟨ad1, cp2, hs⟩)
  ·exact fun L ac w ⟨ad1, cp2, hs⟩ => pln (stoo hs 0 ([.slice ad1 ((rst m ++ b).length) cp2]) sizeOf34 rfl rfl rfl rfl rfl rfl rfl rfl (tabs_tle (i := 0) rfl (Nat.le_of_ble_eq_true rfl)) (tabs_wr (i := 0) rfl rfl) fun w hs => ⟨ad1, cp2, hs⟩)
 intro ac w ⟨ad1, cp2, hs⟩
 try dsimp only [cond_true] at hs
 refine then_n (wp_block (wp_loop_m (fun μ ac w => ∃ (h1 : Nat → Nat) (l1 : List UInt8) (a1 : Option Addr) (c1 : Nat), (l1.length) = μ ∧ (∀ j, h1 j < 4294967296) ∧ (blks (blks HH0 m) (rst m ++ b) = blks h1 l1) ∧ (rst (rst m ++ b) = rst l1) ∧ (l1.length ≤ 1000000) ∧ St 59 ⟨w0, [], [(true, cL a1 l1.length c1 (bcs l1)), (true, cL ab b.length cb (bcs b))], Z, X⟩ [(0, true, ptA gh 0)] [(true, gh, 104, (tab .u32 8 h1 ++ ([.slice a1 l1.length c1, nu64 (m.length + b.length)] : List Value)))] ac w) ?_ ?_))
 replace hs := hs.selS [3, 1] rfl (by decide)
 ·exact ⟨_, (blks HH0 m), (rst m ++ b), ad1, cp2, rfl, (fun j => blks_lt HH0_lt m j), rfl, rfl, (by simp only [List.length_append]; omega), (hs.re (fs' := [(0, true, ptA gh 0)]) ⟨rfl, trivial⟩)⟩
 intro μ ac w ⟨h1, l1, a1, c1, hμ, hh1, hb1, hr1, hl1, hs⟩
 refine wp_seq (wp_seq (wp_region_lit (mvv hs rfl rfl rfl fun ac hs => stp (op_nilCheck hs none rfl rfl rfl rfl fun ac hs => stp (op_fieldA hs none rfl rfl rfl underlying104 rfl sizeOf34 (by decide) rfl fun ac hs => ldd hs 0 (.slice a1 l1.length c1) isAgg34 sizeOf34 rfl rfl rfl rfl (tabs_tail (i := 0) rfl rfl) fun ac hs => stp (op_blt hs none (v := ni64 (l1.length)) rfl rfl rfl (blt_len underlying34) rfl fun ac hs => bnn hs (.bool (decide (64 ≤ l1.length))) rfl rfl rfl rfl (bin_geqN (y := 64)) fun ac hs => wpList_nil (then_n (wcs hs rfl ?_ ?_))))))))
 ·intro hc
  have hp3 := of_decide_eq_true hc
  have h64 := of_decide_eq_true hc
  refine wp_skip (then_n (wp_block (wp_seq ?_)))
  replace hs := hs.nf w0 Z X [0] rfl rfl rfl rfl
  refine region_inv [([], [1, 2, 8]), ([0], [2, 8]), ([0, 1], [8]), ([], rgn 4 5), ([3], rgn 5 4), ([3, 4], [6, 7, 8]), ([3, 4, 5], [7, 8]), (rgn 3 4, [8]), (rgn 0 8, [])] (fun L ac w => St 59 ⟨w0, [], [(true, cL a1 l1.length c1 (bcs l1)), (true, cL ab b.length cb (bcs b)), (L 7, cL (vsa a1 c1 1 0) ((l1.take 64).length) (c1 - 0) (bcs (l1.take 64)))], Z, X⟩ [(42, L 0, ptA gh 0), (43, L 1, ptA gh 0), (44, L 2, ptA gh 0), (45, L 3, ptA gh 0), (46, L 4, ptA gh 0), (47, L 5, ptA gh 8), (48, L 6, .slice a1 l1.length c1), (49, L 7, .slice (vsa a1 c1 1 0) ((l1.take 64).length) (c1 - 0)), (50, L 8, .tuple #[]), (0, true, ptA gh 0)] [(true, gh, 104, (cond (L 8) (tab .u32 8 (blk h1 (l1.take 64)) ++ ([.slice a1 l1.length c1, nu64 (m.length + b.length)] : List Value)) (tab .u32 8 h1 ++ ([.slice a1 l1.length c1, nu64 (m.length + b.length)] : List Value))))] ac w) (by kernel_rfl) (by kernel_rfl) ?_ ?_ ?_
  ·exact hs.drew.s4.s4.skip.padS
  ·refine ⟨?_, ?_, ?_, ?_, ?_, ?_, ?_, ?_, ?_, trivial⟩
   ·exact fun L ac w hs => pln (omv hs 0 rfl rfl rfl fun ac hs => hs)
   ·exact fun L ac w hs => pln (op_nilCheck hs (some 1) rfl rfl rfl rfl fun ac hs => hs)
   ·exact fun L ac w hs => pln (op_fieldA hs (some 2) rfl rfl rfl underlying104 rfl sizeOf101 (by decide) rfl fun ac hs => hs)
   ·exact fun L ac w hs => pln (omv hs 3 rfl rfl rfl fun ac hs => hs)
   ·exact fun L ac w hs => pln (op_nilCheck hs (some 4) rfl rfl rfl rfl fun ac hs => hs)
   ·exact fun L ac w hs => pln (op_fieldA hs (some 5) rfl rfl rfl underlying104 rfl sizeOf34 (by decide) rfl fun ac hs => hs)
   ·exact fun L ac w hs => pln (oldd hs 6 0 (.slice a1 l1.length c1) isAgg34 sizeOf34 rfl rfl rfl rfl (tabs_tail (i := 0) rfl rfl) fun ac hs => hs)
   ·exact fun L ac w hs => pln (op_sliceR hs (some 7) (some 2) 0 0 64 (N' := (l1.take 64).length) (cs' := bcs (l1.take 64)) rfl rfl rfl rfl (.inl ⟨rfl, rfl⟩) (.inr ⟨_, _, rfl, rfl⟩) underlying34 sizeOf5 (show 0 ≤ 64 by omega) (show 64 ≤ l1.length by omega) (len_hi (show 64 ≤ l1.length by omega)) bcs_hi rfl rfl fun ac hs => hs)
   ·exact fun L ac w hs => pln (op_callX (F := 80) (ρ := Unit) hs (some 8) none [0] [2] (v := fun r => .tuple #[]) (S1 := [(true, cL (vsa a1 c1 1 0) ((l1.take 64).length) (c1 - 0) (bcs (l1.take 64)))]) (bs1 := [(true, gh, 104, (tab .u32 8 h1 ++ ([.slice a1 l1.length c1, nu64 (m.length + b.length)] : List Value)))]) (E := fun r => [(true, cL (vsa a1 c1 1 0) ((l1.take 64).length) (c1 - 0) (bcs (l1.take 64)))]) (E1 := fun r => [(true, cL (vsa a1 c1 1 0) ((l1.take 64).length) (c1 - 0) (bcs (l1.take 64)))]) (E2 := fun r => []) (bfA := fun r => [(true, gh, 104, (tab .u32 8 (blk h1 (l1.take 64)) ++ ([.slice a1 l1.length c1, nu64 (m.length + b.length)] : List Value)))]) (bf := fun r => [(true, gh, 104, (tab .u32 8 (blk h1 (l1.take 64)) ++ ([.slice a1 l1.length c1, nu64 (m.length + b.length)] : List Value)))]) (bf2 := fun r => []) rfl rfl rfl rfl rfl (call80 _) rfl rfl (by decide) (by decide) (fun Z X hm => take_c gh 104 h1 ([.slice a1 l1.length c1, nu64 (m.length + b.length)] : List Value) (fun j => hh1 j) (vsa a1 c1 1 0) (c1 - 0) (l1.take 64) (show (l1.take 64).length = 64 by first | omega | ((try simp only [List.length_drop, List.length_take, List.length_append, List.length_cons, List.length_nil]); omega)) _ _ _ hm) (fun _ => rfl) (fun _ => rfl) (fun _ => rfl) (fun _ => rfl) (fun _ => rfl) rfl fun _ ac w hs => hs)
  intro ac w hs
  try dsimp only [cond_true] at hs
  refine then_n (wp_region_lit (mvv hs rfl rfl rfl fun ac hs => mvv hs rfl rfl rfl fun ac hs => stp (op_nilCheck hs none rfl rfl rfl rfl fun ac hs => stp (op_fieldA hs none rfl rfl rfl underlying104 rfl sizeOf34 (by decide) rfl fun ac hs => ldd hs 0 (.slice a1 l1.length c1) isAgg34 sizeOf34 rfl rfl rfl rfl (tabs_tail (i := 0) rfl rfl) fun ac hs => stp (op_sliceR hs none none 0 64 l1.length (N' := (l1.drop 64).length) (cs' := bcs (l1.drop 64)) rfl rfl rfl rfl (.inr ⟨_, _, rfl, rfl⟩) (.inl ⟨rfl, rfl⟩) underlying34 sizeOf5 (show 64 ≤ l1.length by omega) (show l1.length ≤ l1.length by omega) len_lo bcs_lo rfl rfl fun ac hs => stp (op_nilCheck hs none rfl rfl rfl rfl fun ac hs => stp (op_fieldA hs none rfl rfl rfl underlying104 rfl sizeOf34 (by decide) rfl fun ac hs => stp (stoo hs 0 ([.slice (vsa a1 c1 1 64) ((l1.drop 64).length) (c1 - 64)]) sizeOf34 rfl rfl rfl rfl rfl rfl rfl rfl (tabs_tle (i := 0) rfl (Nat.le_of_ble_eq_true rfl)) (tabs_wr (i := 0) rfl rfl) fun w hs => ?_))))))))
  refine wpList_nil (blk_n (then_n ?_))
  replace hs := hs.selS [3, 1] rfl (by decide)
  exact ⟨_, ⟨(blk h1 (l1.take 64)), (l1.drop 64), (vsa a1 c1 1 64), (c1 - 64), rfl, (fun j => blk_lt _ _ j), (hb1.trans (blks_step (by omega))), (hr1.trans (rst_step (by omega))), (by simp only [List.length_drop]; omega), (hs.re (fs' := [(0, true, ptA gh 0)]) ⟨rfl, trivial⟩)⟩, (by simp only [List.length_drop]; omega)⟩
 intro hc
 have hp4 := of_decide_eq_false hc
 have h64 := of_decide_eq_false hc
 have hbe : blks HH0 (m ++ b) = h1 := by rw [← wr_h, hb1, blks_end (by omega)]
 have hre : rst (m ++ b) = l1 := by rw [rst_append, hr1, rst_end (by omega)]
 refine wp_exit (then_e (then_e (blk_e ?_)))
 subst hbe; subst hre
 replace hs := hs.setb 0 (cs' := (tab .u32 8 (blks HH0 (m ++ b)) ++ ([.slice a1 ((rst (m ++ b)).length) c1, nu64 ((m ++ b).length)] : List Value))) rfl (by simp only [List.length_append])
 exact bodyPost_end (res0 rfl) hs.defers ⟨⟨a1, c1⟩, rfl, ((hs.selS [0, 1] rfl (by decide)).selB [0] rfl (by decide)).mem⟩
theorem hsum_c (gh : Nat) (ar : Option Addr) (cr : Nat) (m : List UInt8) (hmb : m.length ≤ 900000) (w0 : World) (Z X : Nat → Prop) (hm : Mem ⟨w0, [], [(true, cL ar ((rst m).length) cr (bcs (rst m)))], Z, X⟩ [(true, gh, 104, (tab .u32 8 (blks HH0 m) ++ ([.slice ar ((rst m).length) cr, nu64 (m.length)] : List Value)))] w0) : Calls prog 70 #[ptA gh 0] w0 fun e w' => PostX w0 Z X (ρ := Unit) (fun r => At .u8 32 (sha m)) (fun r => [(true, gh, 104, tab .u32 8 (blks HH0 m) ++ ([.slice ar (rst m).length cr, nu64 (m.length)] : List Value))]) (fun r => [(true, cL ar (rst m).length cr (bcs (rst m)))]) e w' := by
 have hrl := rst_lt m
 refine enterX (n := 81) (args := [ptA gh 0]) func70 rfl rfl (Nat.le_of_ble_eq_true rfl) hm fun ac hs => wp_seq (wp_region_lit (stp (op_alloc hs none none (cs := (tab .u8 32 (fun _ => 0))) rfl rfl zeroValue89 (by kernel_rfl) rfl rfl fun g1 ac w hs => wpList_nil (then_n (wp_seq (wp_seq (wp_region_lit (mvv hs rfl rfl rfl fun ac hs => bnn hs (.bool false) rfl rfl rfl rfl (bin_eqlP0 underlying90) fun ac hs => wpList_nil (then_n (wp_cond_false (hs.ev rfl) (wp_skip (then_n (wp_seq (wp_region_lit (stp (op_bsO0 hs none none (size := 1) rfl rfl underlying34 inf_u8_5 rfl rfl fun ad3 ac w hs => ?_))))))))))))))))
 refine mvv hs rfl rfl rfl fun ac hs => stp (op_nilCheck hs none rfl rfl rfl rfl fun ac hs => stp (op_fieldA hs none rfl rfl rfl underlying104 rfl sizeOf34 (by decide) rfl fun ac hs => ldd hs 0 (.slice ar ((rst m).length) cr) isAgg34 sizeOf34 rfl rfl rfl rfl (tabs_tail (i := 0) rfl rfl) fun ac hs => stp (op_appR hs none 1 0 (N' := (rst m).length) (ys := bcs (rst m)) rfl rfl rfl rfl rfl rfl underlying34 inf_u8_5 rfl (by decide) (bcs_len1 rfl) (bcs_one _) (by decide) (show 0 + ((rst m).length) ≤ 1000000 by omega) (Nat.zero_add _) rfl rfl rfl fun ad4 cp5 ac w hs => asg hs rfl rfl rfl fun ac hs => wpList_nil (then_n (wp_seq ?_)))))
 replace hs := hs.nf w0 Z X [0, 2, 3] rfl rfl rfl rfl
 refine wp_region_lit (mvv hs rfl rfl rfl fun ac hs => stp (op_bsO hs none none (qs := [(0, .int .u8 128)]) (cs := [.int .u8 128]) (cs' := bcs [UInt8.ofNat 128]) rfl rfl rfl rfl underlying34 inf_u8_5 (by decide) (by decide) (fill_one _ _ rfl ) rfl (bcs_cons (by decide) rfl) rfl rfl fun ad7 ac w hs => stp (op_appR hs none 1 2 (N' := (rst m ++ [UInt8.ofNat 128]).length) (ys := bcs (rst m ++ [UInt8.ofNat 128])) rfl rfl rfl rfl rfl rfl underlying34 inf_u8_5 rfl (by decide) (bcs_len1 rfl) (bcs_one _) (by decide) (show (rst m).length + 1 ≤ 1000000 by omega) (by simp only [List.length_append, List.length_cons, List.length_nil] <;> omega) (bcs_append _ _) rfl rfl fun ad8 cp9 ac w hs => asg hs rfl rfl rfl fun ac hs => wpList_nil (then_n (wp_seq (wp_block ?_))))))
 rw [show rst m ++ [UInt8.ofNat 128] = rst m ++ tl0 0 from rfl] at hs
 refine wp_loop_m (fun μ ac w => ∃ (j : Nat) (ao : Option Addr) (co : Nat), (zs64 (rst m).length - j) = μ ∧ (j ≤ zs64 (rst m).length) ∧ St 81 ⟨w0, [], [(true, cL ar ((rst m).length) cr (bcs (rst m))), (true, oW ao ((rst m ++ tl0 j).length) co 5 (bcs (rst m ++ tl0 j)))], Z, X⟩ [(0, true, ptA gh 0), (2, true, ptA g1 0), (3, true, .slice ao ((rst m ++ tl0 j).length) co)] [(true, gh, 104, (tab .u32 8 (blks HH0 m) ++ ([.slice ar ((rst m).length) cr, nu64 (m.length)] : List Value))), (true, g1, 89, (tab .u8 32 (fun _ => 0)))] ac w) ?_ ?_
 replace hs := hs.selS [0, 1] rfl (by decide)
 ·exact ⟨_, 0, ad8, cp9, rfl, (Nat.zero_le _), (hs.re (fs' := [(0, true, ptA gh 0), (2, true, ptA g1 0), (3, true, .slice ad8 ((rst m ++ tl0 0).length) cp9)]) ⟨rfl, rfl, rfl, trivial⟩)⟩
 intro μ ac w ⟨j, ao, co, hμ, hj, hs⟩
 have hll : (rst m ++ tl0 j).length = (rst m).length + (j + 1) := by rw [List.length_append, tl0_len]
 have hz63 : zs64 (rst m).length < 64 := Nat.mod_lt _ (by decide)
 refine wp_seq (wp_seq (wp_region_lit (mvv hs rfl rfl rfl fun ac hs => stp (op_blt hs none (v := ni64 ((rst m ++ tl0 j).length)) rfl rfl rfl (blt_len underlying34) rfl fun ac hs => bnn hs (ni64 (((rst m ++ tl0 j).length) % 64)) rfl rfl rfl rfl (bin_remN (y := 64) rfl (by decide)) fun ac hs => bnn hs (.bool (decide (((rst m ++ tl0 j).length) % 64 ≠ 56))) rfl rfl rfl rfl (bin_neqN (y := 56)) fun ac hs => wpList_nil (then_n (wcs hs rfl ?_ ?_))))))
 ·intro hc
  have hp10 := of_decide_eq_true hc
  have hz : ¬ ((rst m).length + (j + 1)) % 64 = 56 := by rw [← hll]; exact of_decide_eq_true hc
  refine wp_skip (then_n (wp_block (wp_region_lit (mvv hs rfl rfl rfl fun ac hs => stp (op_bsO hs none none (qs := [(0, .int .u8 0)]) (cs := [.int .u8 0]) (cs' := bcs [UInt8.ofNat 0]) rfl rfl rfl rfl underlying34 inf_u8_5 (by decide) (by decide) (fill_one _ _ rfl ) rfl (bcs_cons (by decide) rfl) rfl rfl fun ad12 ac w hs => stp (op_appR hs none 1 2 (N' := (rst m ++ tl0 j ++ [UInt8.ofNat 0]).length) (ys := bcs (rst m ++ tl0 j ++ [UInt8.ofNat 0])) rfl rfl rfl rfl rfl rfl underlying34 inf_u8_5 rfl (by decide) (bcs_len1 rfl) (bcs_one _) (by decide) (show (rst m ++ tl0 j).length + 1 ≤ 1000000 by first | omega | ((try simp only [List.length_drop, List.length_take, List.length_append, List.length_cons, List.length_nil]); omega)) (by simp only [List.length_append, List.length_cons, List.length_nil] <;> omega) (bcs_append _ _) rfl rfl fun ad13 cp14 ac w hs => asg hs rfl rfl rfl fun ac hs => wpList_nil (blk_n (then_n ?_))))))))
  rw [show rst m ++ tl0 j ++ [UInt8.ofNat 0] = rst m ++ tl0 (j + 1) from (by rw [List.append_assoc, tl0_succ])] at hs
  replace hs := hs.selS [0, 1] rfl (by decide)
  exact ⟨_, ⟨(j + 1), ad13, cp14, rfl, (zs_go hj hz), (hs.re (fs' := [(0, true, ptA gh 0), (2, true, ptA g1 0), (3, true, .slice ad13 ((rst m ++ tl0 (j + 1)).length) cp14)]) ⟨rfl, rfl, rfl, trivial⟩)⟩, (by have := zs_go hj hz; omega)⟩
 intro hc
 have hp15 := of_decide_eq_false hc
 obtain rfl : j = zs64 (rst m).length := zs_end hj (by rw [← hll]; exact Classical.not_not.1 (of_decide_eq_false hc))
 refine wp_exit (then_e (then_e (blk_e (then_n (wp_seq (wp_region_lit (mvv hs rfl rfl rfl fun ac hs => stp (op_nilCheck hs none rfl rfl rfl rfl fun ac hs => stp (op_fieldA hs none rfl rfl rfl underlying104 rfl sizeOf86 (by decide) rfl fun ac hs => ldd hs 0 (nu64 (m.length)) isAgg86 sizeOf86 rfl rfl rfl rfl (tabs_tail (i := 1) rfl rfl) fun ac hs => bnn hs (nu64 (m.length * 8)) rfl rfl rfl rfl (bin_mulN (y := 8) rfl (show m.length * 8 < 18446744073709551616 by omega)) fun ac hs => asg hs rfl rfl rfl fun ac hs => wpList_nil (then_n (wp_seq (wp_seq ?_))))))))))))
 replace hs := hs.nf w0 Z X [0, 2, 3, 4] rfl rfl rfl rfl
 refine wp_region_lit (asg hs rfl rfl rfl fun ac hs => wpList_nil (then_n (wp_block ?_)))
 rw [show rst m ++ tl0 (zs64 (rst m).length) = (rst m ++ tl0 (zs64 (rst m).length)) ++ be8t (m.length * 8) 0 from (by simp [be8t])] at hs
 refine wp_loop_m (fun μ ac w => ∃ (k : Nat) (ao2 : Option Addr) (co2 : Nat), (8 - k) = μ ∧ (k ≤ 8) ∧ St 81 ⟨w0, [], [(true, cL ar ((rst m).length) cr (bcs (rst m))), (true, oW ao2 (((rst m ++ tl0 (zs64 (rst m).length)) ++ be8t (m.length * 8) k).length) co2 5 (bcs ((rst m ++ tl0 (zs64 (rst m).length)) ++ be8t (m.length * 8) k)))], Z, X⟩ [(0, true, ptA gh 0), (2, true, ptA g1 0), (4, true, nu64 (m.length * 8)), (3, true, .slice ao2 (((rst m ++ tl0 (zs64 (rst m).length)) ++ be8t (m.length * 8) k).length) co2), (5, true, .int .i64 (56 - 8 * (k : Int)))] [(true, gh, 104, (tab .u32 8 (blks HH0 m) ++ ([.slice ar ((rst m).length) cr, nu64 (m.length)] : List Value))), (true, g1, 89, (tab .u8 32 (fun _ => 0)))] ac w) ?_ ?_
 ·exact ⟨_, 0, ao, co, rfl, (by omega), (hs.re (fs' := [(0, true, ptA gh 0), (2, true, ptA g1 0), (4, true, nu64 (m.length * 8)), (3, true, .slice ao (((rst m ++ tl0 (zs64 (rst m).length)) ++ be8t (m.length * 8) 0).length) co), (5, true, .int .i64 (56 - 8 * (0 : Int)))]) ⟨rfl, rfl, rfl, rfl, rfl, trivial⟩)⟩
 intro μ ac w ⟨k, ao2, co2, hμ, hk, hs⟩
 have hlk : ((rst m ++ tl0 (zs64 (rst m).length)) ++ be8t (m.length * 8) k).length = (rst m).length + (zs64 (rst m).length + 1) + k := by rw [List.length_append, List.length_append, tl0_len, be8t_len]
 refine wp_seq (wp_seq (wp_region_lit (mvv hs rfl rfl rfl fun ac hs => bnn hs (.bool (decide (0 ≤ 56 - 8 * (k : Int)))) rfl rfl rfl rfl bin_geqI fun ac hs => wpList_nil (then_n (wcs hs rfl ?_ ?_)))))
 ·intro hc
  have hp16 := of_decide_eq_true hc
  have hk7 : k ≤ 7 := by have := of_decide_eq_true hc; omega
  replace hs := hs.re (fs' := [(0, true, ptA gh 0), (2, true, ptA g1 0), (4, true, nu64 (m.length * 8)), (3, true, .slice ao2 (((rst m ++ tl0 (zs64 (rst m).length)) ++ be8t (m.length * 8) k).length) co2), (5, true, ni64 (56 - 8 * k)), (36, true, .int .i64 (56 - 8 * (k : Int))), (37, true, .bool (decide (0 ≤ 56 - 8 * (k : Int))))]) ⟨rfl, rfl, rfl, rfl, congrArg some (by rw [show (56 - 8 * (k : Int)) = ((56 - 8 * k : Nat) : Int) by omega]), rfl, rfl, trivial⟩
  refine wp_skip (then_n (wp_seq (wp_block (wp_region_lit (mvv hs rfl rfl rfl fun ac hs => mvv hs rfl rfl rfl fun ac hs => mvv hs rfl rfl rfl fun ac hs => bnn hs (.int .u64 (((m.length * 8) / 2 ^ (56 - 8 * k) : Nat) : Int)) rfl rfl rfl rfl (bin_shrN (z := (m.length * 8) / 2 ^ (56 - 8 * k)) rfl (show m.length * 8 < 18446744073709551616 by omega)) fun ac hs => stp (op_convert hs none (v := .int .u8 (((m.length * 8) / 2 ^ (56 - 8 * k) % 256 : Nat) : Int)) rfl rfl rfl (conv_M (z := (m.length * 8) / 2 ^ (56 - 8 * k) % 256) rfl underlying86 underlying5 rfl) rfl fun ac hs => stp (op_bsO hs none none (qs := [(0, .int .u8 (((m.length * 8) / 2 ^ (56 - 8 * k) % 256 : Nat) : Int))]) (cs := [.int .u8 (((m.length * 8) / 2 ^ (56 - 8 * k) % 256 : Nat) : Int)]) (cs' := bcs [UInt8.ofNat ((m.length * 8) / 2 ^ (56 - 8 * k) % 256)]) rfl rfl rfl rfl underlying34 inf_u8_5 (by decide) (by decide) (fill_one _ _ rfl ) rfl (bcs_cons (show (m.length * 8) / 2 ^ (56 - 8 * k) % 256 < 256 by omega) rfl) rfl rfl fun ad18 ac w hs => stp (op_appR hs none 1 2 (N' := ((rst m ++ tl0 (zs64 (rst m).length)) ++ be8t (m.length * 8) k ++ [UInt8.ofNat ((m.length * 8) / 2 ^ (56 - 8 * k) % 256)]).length) (ys := bcs ((rst m ++ tl0 (zs64 (rst m).length)) ++ be8t (m.length * 8) k ++ [UInt8.ofNat ((m.length * 8) / 2 ^ (56 - 8 * k) % 256)])) rfl rfl rfl rfl rfl rfl underlying34 inf_u8_5 rfl (by decide) (bcs_len1 rfl) (bcs_one _) (by decide) (show ((rst m ++ tl0 (zs64 (rst m).length)) ++ be8t (m.length * 8) k).length + 1 ≤ 1000000 by first | omega | ((try simp only [List.length_drop, List.length_take, List.length_append, List.length_cons, List.length_nil]); omega)) (by simp only [List.length_append, List.length_cons, List.length_nil] <;> omega) (bcs_append _ _) rfl rfl fun ad19 cp20 ac w hs => asg hs rfl rfl rfl fun ac hs => wpList_nil (blk_n (then_n ?_))))))))))
  replace hs := hs.nf w0 Z X [0, 2, 4, 3, 5] rfl rfl rfl rfl
  refine wp_region_lit (mvv hs rfl rfl rfl fun ac hs => bnn hs (.int .i64 (56 - 8 * ((k + 1 : Nat) : Int))) rfl rfl rfl rfl (bin_subI (y := 8) (by omega) (by omega) (by omega)) fun ac hs => asg hs rfl rfl rfl fun ac hs => wpList_nil (then_n ?_))
  rw [show (rst m ++ tl0 (zs64 (rst m).length)) ++ be8t (m.length * 8) k ++ [UInt8.ofNat ((m.length * 8) / 2 ^ (56 - 8 * k) % 256)] = (rst m ++ tl0 (zs64 (rst m).length)) ++ be8t (m.length * 8) (k + 1) from (by rw [be8t_succ, ← List.append_assoc])] at hs
  replace hs := hs.selS [0, 1] rfl (by decide)
  exact ⟨_, ⟨(k + 1), ad19, cp20, rfl, (by omega), (hs.re (fs' := [(0, true, ptA gh 0), (2, true, ptA g1 0), (4, true, nu64 (m.length * 8)), (3, true, .slice ad19 (((rst m ++ tl0 (zs64 (rst m).length)) ++ be8t (m.length * 8) (k + 1)).length) cp20), (5, true, .int .i64 (56 - 8 * ((k + 1) : Int)))]) ⟨rfl, rfl, rfl, rfl, rfl, trivial⟩)⟩, (by omega)⟩
 intro hc
 have hp21 := of_decide_eq_false hc
 obtain rfl : k = 8 := by have := of_decide_eq_false hc; omega
 refine wp_exit (then_e (then_e (blk_e (then_n (wp_seq (wp_region_lit (mvv hs rfl rfl rfl fun ac hs => stp (op_nilCheck hs none rfl rfl rfl rfl fun ac hs => stp (op_fieldA hs none rfl rfl rfl underlying104 rfl sizeOf101 (by decide) rfl fun ac hs => ldd hs 0 (At .u32 8 (blks HH0 m)) isAgg101 sizeOf101 rfl rfl rfl rfl ldv_tabs fun ac hs => stp (op_alloc hs none none (cs := (tab .u32 8 (fun _ => 0))) rfl rfl zeroValue101 (by kernel_rfl) rfl rfl fun g22 ac w hs => stp (stoo hs 2 ((tab .u32 8 (blks HH0 m))) sizeOf101 rfl rfl rfl rfl rfl (by kernel_rfl) tab_length' (tab_one _ _ _) tab_leA wr_tab fun w hs => wpList_nil (then_n (wp_seq (wp_block ?_))))))))))))))
 replace hs := hs.freeze 1 rfl
 rw [show (rst m ++ tl0 (zs64 (rst m).length)) ++ be8t (m.length * 8) 8 = rst m ++ tl64 (rst m).length m.length from (by unfold tl64; rw [← List.append_assoc]; rfl)] at hs
 refine wp_loop_m (fun μ ac w => ∃ (h1 : Nat → Nat) (l1 : List UInt8) (a1 : Option Addr) (c1 : Nat), (l1.length) = μ ∧ (∀ j, h1 j < 4294967296) ∧ (blks (blks HH0 m) (rst m ++ tl64 (rst m).length m.length) = blks h1 l1) ∧ (l1.length % 64 = 0) ∧ St 81 ⟨w0, [], [(true, cL ar ((rst m).length) cr (bcs (rst m))), (true, cL a1 l1.length c1 (bcs l1))], Z, X⟩ [(0, true, ptA gh 0), (2, true, ptA g1 0), (6, true, ptA g22 0), (3, true, .slice a1 l1.length c1)] [(true, gh, 104, (tab .u32 8 (blks HH0 m) ++ ([.slice ar ((rst m).length) cr, nu64 (m.length)] : List Value))), (true, g1, 89, (tab .u8 32 (fun _ => 0))), (true, g22, 101, (tab .u32 8 h1))] ac w) ?_ ?_
 ·exact ⟨_, (blks HH0 m), (rst m ++ tl64 (rst m).length m.length), ao2, co2, rfl, (fun j => blks_lt HH0_lt m j), rfl, (by rw [List.length_append]; exact tl64_len _ _), (hs.re (fs' := [(0, true, ptA gh 0), (2, true, ptA g1 0), (6, true, ptA g22 0), (3, true, .slice ao2 (rst m ++ tl64 (rst m).length m.length).length co2)]) ⟨rfl, rfl, rfl, rfl, trivial⟩)⟩
 intro μ ac w ⟨h1, l1, a1, c1, hμ, hh1, hb1, hm1, hs⟩
 refine wp_seq (wp_seq (wp_region_lit (mvv hs rfl rfl rfl fun ac hs => stp (op_blt hs none (v := ni64 (l1.length)) rfl rfl rfl (blt_len underlying34) rfl fun ac hs => bnn hs (.bool (decide (0 < l1.length))) rfl rfl rfl rfl (bin_gtrN (y := 0)) fun ac hs => wpList_nil (then_n (wcs hs rfl ?_ ?_))))))
 ·intro hc
  have hp23 := of_decide_eq_true hc
  have hpos := of_decide_eq_true hc
  have h64 : ¬ l1.length < 64 := by omega
  refine wp_skip (then_n (wp_seq (wp_block (wp_region_lit (mvv hs rfl rfl rfl fun ac hs => stp (op_sliceR hs none none 1 0 64 (N' := (l1.take 64).length) (cs' := bcs (l1.take 64)) rfl rfl rfl rfl (.inl ⟨rfl, rfl⟩) (.inr ⟨_, _, rfl, rfl⟩) underlying34 sizeOf5 (show 0 ≤ 64 by omega) (show 64 ≤ l1.length by omega) (len_hi (show 64 ≤ l1.length by omega)) bcs_hi rfl rfl fun ac hs => stp (op_callX (F := 80) (ρ := Unit) hs none none [2] [2] (v := fun r => .tuple #[]) (S1 := [(true, cL (vsa a1 c1 1 0) ((l1.take 64).length) (c1 - 0) (bcs (l1.take 64)))]) (bs1 := [(true, g22, 101, (tab .u32 8 h1))]) (E := fun r => [(true, cL (vsa a1 c1 1 0) ((l1.take 64).length) (c1 - 0) (bcs (l1.take 64)))]) (E1 := fun r => [(true, cL (vsa a1 c1 1 0) ((l1.take 64).length) (c1 - 0) (bcs (l1.take 64)))]) (E2 := fun r => []) (bfA := fun r => [(true, g22, 101, (tab .u32 8 (blk h1 (l1.take 64))))]) (bf := fun r => [(true, g22, 101, (tab .u32 8 (blk h1 (l1.take 64))))]) (bf2 := fun r => []) rfl rfl rfl rfl rfl (call80 _) rfl rfl (by decide) (by decide) (fun Z X hm => take_c g22 101 h1 [] (fun j => hh1 j) (vsa a1 c1 1 0) (c1 - 0) (l1.take 64) (show (l1.take 64).length = 64 by first | omega | ((try simp only [List.length_drop, List.length_take, List.length_append, List.length_cons, List.length_nil]); omega)) _ _ _ hm) (fun _ => rfl) (fun _ => rfl) (fun _ => rfl) (fun _ => rfl) (fun _ => rfl) rfl fun _ ac w hs => wpList_nil (blk_n (then_n ?_)))))))))
  replace hs := hs.nf w0 Z X [0, 2, 6, 3] rfl rfl rfl rfl
  refine wp_region_lit (mvv hs rfl rfl rfl fun ac hs => stp (op_sliceR hs none none 1 64 l1.length (N' := (l1.drop 64).length) (cs' := bcs (l1.drop 64)) rfl rfl rfl rfl (.inr ⟨_, _, rfl, rfl⟩) (.inl ⟨rfl, rfl⟩) underlying34 sizeOf5 (show 64 ≤ l1.length by omega) (show l1.length ≤ l1.length by omega) len_lo bcs_lo rfl rfl fun ac hs => asg hs rfl rfl rfl fun ac hs => wpList_nil (then_n ?_)))
  replace hs := hs.selS [0, 3] rfl (by decide)
  exact ⟨_, ⟨(blk h1 (l1.take 64)), (l1.drop 64), (vsa a1 c1 1 64), (c1 - 64), rfl, (fun j => blk_lt _ _ j), (hb1.trans (blks_step h64)), (by simp only [List.length_drop]; omega), (hs.re (fs' := [(0, true, ptA gh 0), (2, true, ptA g1 0), (6, true, ptA g22 0), (3, true, .slice (vsa a1 c1 1 64) (l1.drop 64).length (c1 - 64))]) ⟨rfl, rfl, rfl, rfl, trivial⟩)⟩, (by simp only [List.length_drop]; omega)⟩
 intro hc
 have hp24 := of_decide_eq_false hc
 have hl0 : l1 = [] := List.length_eq_zero_iff.1 (by have := of_decide_eq_false hc; omega)
 have hH : shaH m = h1 := by rw [← sha_sum, hb1, hl0, blks_end (by decide)]
 refine wp_exit (then_e (then_e (blk_e (then_n (wp_seq (wp_region_lit (stp (op_alloc hs none none (cs := (tab .u8 32 (fun _ => 0))) rfl rfl zeroValue89 (by kernel_rfl) rfl rfl fun g25 ac w hs => wpList_nil (then_n (wp_seq (wp_seq (wp_region_lit (ldd hs 2 (At .u32 8 h1) isAgg101 sizeOf101 rfl rfl rfl rfl ldv_tab fun ac hs => mvv hs rfl rfl rfl fun ac hs => wpList_nil (then_n (wp_block ?_)))))))))))))))
 replace hs := hs.setb 3 (cs' := (tab .u8 32 (outT h1 (4 * 0)))) rfl (tab_ext fun j hj => outT_zero h1 j)
 refine wp_loop_m (fun μ ac w => ∃ (i : Nat), (8 - i) = μ ∧ (i ≤ 8) ∧ St 81 ⟨w0, [], [(true, cL ar ((rst m).length) cr (bcs (rst m)))], Z, X⟩ [(0, true, ptA gh 0), (2, true, ptA g1 0), (7, true, ptA g25 0), (59, true, At .u32 8 h1), (60, true, ni64 i)] [(true, gh, 104, (tab .u32 8 (blks HH0 m) ++ ([.slice ar ((rst m).length) cr, nu64 (m.length)] : List Value))), (true, g1, 89, (tab .u8 32 (fun _ => 0))), (true, g22, 101, (tab .u32 8 h1)), (true, g25, 89, (tab .u8 32 (outT h1 (4 * i))))] ac w) ?_ ?_
 replace hs := hs.selS [0] rfl (by decide)
 ·exact ⟨_, 0, rfl, (by omega), (hs.re (fs' := [(0, true, ptA gh 0), (2, true, ptA g1 0), (7, true, ptA g25 0), (59, true, At .u32 8 h1), (60, true, ni64 0)]) ⟨rfl, rfl, rfl, rfl, rfl, trivial⟩)⟩
 intro μ ac w ⟨i, hμ, hi, hs⟩
 refine wp_seq (wp_region_lit (bnn hs (.bool (decide (i < 8))) rfl rfl rfl rfl (bin_lssN (y := 8)) fun ac hs => wpList_nil (then_n (wp_seq (wcs hs rfl ?_ ?_)))))
 ·intro hc
  have hp26 := of_decide_eq_true hc
  have hi8 := of_decide_eq_true hc
  refine wp_skip (then_n (wp_seq (wp_block (wp_seq (wp_region_lit (mvv hs rfl rfl rfl fun ac hs => ?_))))))
  have l27 := hh1 i
  refine stp (op_index hs none (v := nu32 (h1 i)) rfl rfl rfl rfl (idx_at (j := i) underlying101 isAgg99 sizeOf99 (show i < 8 by omega)) rfl fun ac hs => asg hs rfl rfl rfl fun ac hs => asg hs rfl rfl rfl fun ac hs => wpList_nil (then_n (wp_seq (wp_region_lit (mvv hs rfl rfl rfl fun ac hs => wpList_nil (then_n (wp_block ?_)))))))
  replace hs := hs.setb 3 (cs' := (tab .u8 32 (outT h1 (4 * i + 0)))) rfl rfl
  refine wp_loop_m (fun μ ac w => ∃ (k : Nat), (4 - k) = μ ∧ (k ≤ 4) ∧ St 81 ⟨w0, [], [(true, cL ar ((rst m).length) cr (bcs (rst m)))], Z, X⟩ [(0, true, ptA gh 0), (2, true, ptA g1 0), (7, true, ptA g25 0), (8, true, ni64 i), (9, true, nu32 (h1 i)), (59, true, At .u32 8 h1), (60, true, ni64 i), (64, true, ni64 k)] [(true, gh, 104, (tab .u32 8 (blks HH0 m) ++ ([.slice ar ((rst m).length) cr, nu64 (m.length)] : List Value))), (true, g1, 89, (tab .u8 32 (fun _ => 0))), (true, g22, 101, (tab .u32 8 h1)), (true, g25, 89, (tab .u8 32 (outT h1 (4 * i + k))))] ac w) ?_ ?_
  ·exact ⟨_, 0, rfl, (by omega), (hs.re (fs' := [(0, true, ptA gh 0), (2, true, ptA g1 0), (7, true, ptA g25 0), (8, true, ni64 i), (9, true, nu32 (h1 i)), (59, true, At .u32 8 h1), (60, true, ni64 i), (64, true, ni64 0)]) ⟨rfl, rfl, rfl, rfl, rfl, rfl, rfl, rfl, trivial⟩)⟩
  intro μ ac w ⟨k, hμ, hk, hs⟩
  refine wp_seq (wp_region_lit (bnn hs (.bool (decide (k < 4))) rfl rfl rfl rfl (bin_lssN (y := 4)) fun ac hs => wpList_nil (then_n (wp_seq (wcs hs rfl ?_ ?_)))))
  ·intro hc
   have hp28 := of_decide_eq_true hc
   have hk4 := of_decide_eq_true hc
   refine wp_skip (then_n (wp_seq (wp_block (wp_seq (wp_region_lit (mvv hs rfl rfl rfl fun ac hs => asg hs rfl rfl rfl fun ac hs => wpList_nil (then_n (wp_region_lit (mvv hs rfl rfl rfl fun ac hs => bnn hs (ni64 (4 * i)) rfl rfl rfl rfl (bin_mulN (x := 4) rfl (show 4 * i < 9223372036854775808 by omega)) fun ac hs => mvv hs rfl rfl rfl fun ac hs => bnn hs (ni64 (4 * i + k)) rfl rfl rfl rfl (bin_addN rfl (show 4 * i + k < 9223372036854775808 by omega)) fun ac hs => mvv hs rfl rfl rfl fun ac hs => mvv hs rfl rfl rfl fun ac hs => ?_)))))))))
   refine bnn hs (ni64 (8 * k)) rfl rfl rfl rfl (bin_mulN (x := 8) rfl (show 8 * k < 9223372036854775808 by omega)) fun ac hs => bnn hs (ni64 (24 - (8 * k))) rfl rfl rfl rfl (bin_subN (x := 24) (by omega) (show 24 - (8 * k) < 9223372036854775808 by omega)) fun ac hs => bnn hs (.int .u32 (((h1 i) / 2 ^ (24 - (8 * k)) : Nat) : Int)) rfl rfl rfl rfl (bin_shrN (z := (h1 i) / 2 ^ (24 - (8 * k))) rfl (show h1 i < 4294967296 from hh1 i)) fun ac hs => stp (op_convert hs none (v := .int .u8 (((h1 i) / 2 ^ (24 - (8 * k)) % 256 : Nat) : Int)) rfl rfl rfl (conv_M (z := (h1 i) / 2 ^ (24 - (8 * k)) % 256) rfl underlying99 underlying5 rfl) rfl fun ac hs => stp (op_idxA hs none (j := 4 * i + k) rfl rfl rfl rfl underlying89 sizeOf5 (show 4 * i + k < 32 by omega) (off := 4 * i + k) (by omega) rfl fun ac hs => stp (stoo hs 3 ([.int .u8 (((h1 i) / 2 ^ (24 - (8 * k)) % 256 : Nat) : Int)]) sizeOf5 rfl rfl rfl rfl rfl rfl rfl rfl (tab_le (j := 4 * i + k) (show 4 * i + k < 32 by omega)) (tab_set) fun w hs => wpList_nil (blk_n (then_n ?_)))))
   replace hs := hs.nf w0 Z X [0, 2, 7, 8, 9, 59, 60, 64] rfl rfl rfl rfl
   refine wp_region_lit (bnn hs (ni64 (k + 1)) rfl rfl rfl rfl (bin_addN (y := 1) rfl (show k + 1 < 9223372036854775808 by omega)) fun ac hs => mvv hs rfl rfl rfl fun ac hs => wpList_nil (then_n ?_))
   replace hs := hs.setb 3 (cs' := (tab .u8 32 (outT h1 (4 * i + (k + 1))))) rfl (tab_ext fun j hj => outT_step (shaB_at hk4) j)
   exact ⟨_, ⟨(k + 1), rfl, (by omega), (hs.re (fs' := [(0, true, ptA gh 0), (2, true, ptA g1 0), (7, true, ptA g25 0), (8, true, ni64 i), (9, true, nu32 (h1 i)), (59, true, At .u32 8 h1), (60, true, ni64 i), (64, true, ni64 ((k + 1)))]) ⟨rfl, rfl, rfl, rfl, rfl, rfl, rfl, rfl, trivial⟩)⟩, (by omega)⟩
  intro hc
  have hp29 := of_decide_eq_false hc
  obtain rfl : k = 4 := by have := of_decide_eq_false hc; omega
  replace hs := hs.setb 3 (cs' := (tab .u8 32 (outT h1 (4 * (i + 1))))) rfl (by rw [show 4 * i + 4 = 4 * (i + 1) by omega])
  refine wp_exit (then_e (then_e (blk_e (blk_n (then_n (wp_region_lit (bnn hs (ni64 (i + 1)) rfl rfl rfl rfl (bin_addN (y := 1) rfl (show i + 1 < 9223372036854775808 by omega)) fun ac hs => mvv hs rfl rfl rfl fun ac hs => wpList_nil (then_n ?_))))))))
  exact ⟨_, ⟨(i + 1), rfl, (by omega), (hs.re (fs' := [(0, true, ptA gh 0), (2, true, ptA g1 0), (7, true, ptA g25 0), (59, true, At .u32 8 h1), (60, true, ni64 ((i + 1)))]) ⟨rfl, rfl, rfl, rfl, rfl, trivial⟩)⟩, (by omega)⟩
 intro hc
 have hp30 := of_decide_eq_false hc
 obtain rfl : i = 8 := by have := of_decide_eq_false hc; omega
 replace hs := hs.setb 3 (cs' := (tab .u8 32 (shaB h1))) rfl (tab_ext fun j hj => outT_end hj)
 refine wp_exit (then_e (then_e (blk_e (then_n (wp_seq (wp_region_lit (ldd hs 3 (At .u8 32 (shaB h1)) isAgg89 sizeOf89 rfl rfl rfl rfl ldv_tab fun ac hs => stp (stoo hs 1 ((tab .u8 32 (shaB h1))) sizeOf89 rfl rfl rfl rfl rfl (by kernel_rfl) tab_length' (tab_one _ _ _) tab_leA wr_tab fun w hs => wpList_nil (then_n (wp_ret ?_))))))))))
 exact bodyPost_ret (res1 rfl (rv_c hs 1 (v := At .u8 32 (shaB h1)) rfl rfl isAgg89 sizeOf89 ldv_tab)) hs.defers ⟨(), by rw [show sha m = shaB h1 from by funext j; unfold sha; rw [hH]], ((hs.selS [0] rfl (by decide)).selB [0] rfl (by decide)).mem⟩
theorem sum_c (ad : Option Addr) (nl c : Nat) (l : List UInt8) (hlen : l.length ≤ 200000) (w0 : World) (Z : Nat → Prop) (hl : ByV w0 Z (.slice ad nl c) l): Calls prog 55 #[.slice ad nl c] w0 fun e w' => Ret w0 Z (ρ := Unit) (fun r => At .u8 32 (sha l)) (fun r => []) e w' := by
 obtain rfl := byv_len hl
 refine enterS (n := 10) (args := [.slice ad l.length c]) (S := [(true, cL ad l.length c (bcs l))]) (Z := Z) func55 rfl rfl (Nat.le_of_ble_eq_true rfl) (sokC hl sok0) rfl fun ac hs => wp_seq (wp_region_lit (stp (op_alloc hs none none (cs := (tab .u8 32 (fun _ => 0))) rfl rfl zeroValue89 (by kernel_rfl) rfl rfl fun g1 ac w hs => wpList_nil (then_n (wp_seq (wp_region_lit (stp (op_callX (F := 68) (ρ := Nat) hs none none [] [] (v := fun r => ptA r 0) (S1 := []) (bs1 := []) (E := fun r => []) (E1 := fun r => []) (E2 := fun r => []) (bfA := fun r => [(true, r, 104, (tab .u32 8 HH0 ++ ([.slice none 0 0, .int .u64 0] : List Value)))]) (bf := fun r => []) (bf2 := fun r => [(true, r, 104, (tab .u32 8 HH0 ++ ([.slice none 0 0, .int .u64 0] : List Value)))]) rfl rfl rfl rfl rfl (call68 _) rfl rfl (by decide) (by decide) (fun Z X hm => new_c _ _ _ hm) (fun _ => rfl) (fun _ => rfl) (fun _ => rfl) (fun _ => rfl) (fun _ => rfl) rfl fun g2 ac w hs => asg hs rfl rfl rfl fun ac hs => wpList_nil (then_n (wp_seq (wp_region_lit (mvv hs rfl rfl rfl fun ac hs => mvv hs rfl rfl rfl fun ac hs => ?_))))))))))))
 replace hs := hs.nilCel none rfl
 replace hs := hs.setb 1 (cs' := (tab .u32 8 (blks HH0 []) ++ ([.slice none ((rst []).length) 0, nu64 (([] : List UInt8).length)] : List Value))) rfl hash0
 replace hs := hs.celEq 1 (N' := (rst []).length) (cs' := bcs (rst [])) rfl rst0.1 rst0.2
 refine stp (op_callX (F := 69) (ρ := Option Addr × Nat) hs none none [1] [1, 0] (v := fun r => .tuple #[]) (S1 := [(true, cL none ((rst []).length) 0 (bcs (rst []))), (true, cL ad l.length c (bcs l))]) (bs1 := [(true, g2, 104, (tab .u32 8 (blks HH0 []) ++ ([.slice none ((rst []).length) 0, nu64 (([] : List UInt8).length)] : List Value)))]) (E := fun r => [(true, cL r.1 ((rst l).length) r.2 (bcs (rst l))), (true, cL ad l.length c (bcs l))]) (E1 := fun r => [(true, cL r.1 ((rst l).length) r.2 (bcs (rst l))), (true, cL ad l.length c (bcs l))]) (E2 := fun r => []) (bfA := fun r => [(true, g2, 104, (tab .u32 8 (blks HH0 l) ++ ([.slice r.1 ((rst l).length) r.2, nu64 ((l).length)] : List Value)))]) (bf := fun r => [(true, g2, 104, (tab .u32 8 (blks HH0 l) ++ ([.slice r.1 ((rst l).length) r.2, nu64 ((l).length)] : List Value)))]) (bf2 := fun r => []) rfl rfl rfl rfl rfl (call69 _) rfl rfl (by decide) (by decide) (fun Z X hm => write_c g2 none 0 ([]) ad c l (show ([]).length + l.length ≤ 900000 by first | omega | ((try simp only [List.length_drop, List.length_take, List.length_append, List.length_cons, List.length_nil]); omega)) _ _ _ hm) (fun _ => rfl) (fun _ => rfl) (fun _ => rfl) (fun _ => rfl) (fun _ => rfl) rfl fun ⟨ad3, cp4⟩ ac w hs => wpList_nil (then_n (wp_seq ?_)))
 replace hs := hs.nf w0 Z noX [2, 3] rfl rfl rfl rfl
 refine wp_region_lit (mvv hs rfl rfl rfl fun ac hs => stp (op_callX (F := 70) (ρ := Unit) hs none none [1] [1] (v := fun r => At .u8 32 (sha l)) (S1 := [(true, cL ad3 ((rst l).length) cp4 (bcs (rst l)))]) (bs1 := [(true, g2, 104, (tab .u32 8 (blks HH0 l) ++ ([.slice ad3 ((rst l).length) cp4, nu64 ((l).length)] : List Value)))]) (E := fun r => [(true, cL ad3 ((rst l).length) cp4 (bcs (rst l)))]) (E1 := fun r => [(true, cL ad3 ((rst l).length) cp4 (bcs (rst l)))]) (E2 := fun r => []) (bfA := fun r => [(true, g2, 104, (tab .u32 8 (blks HH0 l) ++ ([.slice ad3 ((rst l).length) cp4, nu64 ((l).length)] : List Value)))]) (bf := fun r => [(true, g2, 104, (tab .u32 8 (blks HH0 l) ++ ([.slice ad3 ((rst l).length) cp4, nu64 ((l).length)] : List Value)))]) (bf2 := fun r => []) rfl rfl rfl rfl rfl (call70 _) rfl rfl (by decide) (by decide) (fun Z X hm => hsum_c g2 ad3 cp4 l (show l.length ≤ 900000 by omega) _ _ _ hm) (fun _ => rfl) (fun _ => rfl) (fun _ => rfl) (fun _ => rfl) (fun _ => rfl) rfl fun _ ac w hs => stp (stoo hs 0 ((tab .u8 32 (sha l))) sizeOf89 rfl rfl rfl rfl rfl (by kernel_rfl) tab_length' (tab_one _ _ _) tab_leA wr_tab fun w hs => wpList_nil (then_n (wp_ret ?_)))))
 exact bodyPost_ret (res1 rfl (rv_c hs 0 (v := At .u8 32 (sha l)) rfl rfl isAgg89 sizeOf89 ldv_tab)) hs.defers ⟨(), rfl, hs.bel rfl, okl0⟩
theorem double_c (ad : Option Addr) (nl c : Nat) (l : List UInt8) (hlen : l.length ≤ 200000) (w0 : World) (Z : Nat → Prop) (hl : ByV w0 Z (.slice ad nl c) l): Calls prog 56 #[.slice ad nl c] w0 fun e w' => Ret w0 Z (ρ := Unit) (fun r => At .u8 32 (dbl l)) (fun r => []) e w' := by
 obtain rfl := byv_len hl
 have hb32 := btl_len 32 (sha l)
 refine enterS (n := 8) (args := [.slice ad l.length c]) (S := [(true, cL ad l.length c (bcs l))]) (Z := Z) func56 rfl rfl (Nat.le_of_ble_eq_true rfl) (sokC hl sok0) rfl fun ac hs => wp_seq (wp_region_lit (stp (op_alloc hs none none (cs := (tab .u8 32 (fun _ => 0))) rfl rfl zeroValue89 (by kernel_rfl) rfl rfl fun g1 ac w hs => wpList_nil (then_n (wp_seq (wp_region_lit (mvv hs rfl rfl rfl fun ac hs => stp (op_callS (F := 55) (ρ := Unit) hs none none (v := fun r => At .u8 32 (sha l)) (E := fun r => []) (j := 0) rfl rfl rfl rfl (call55 _) (fun hs => sum_c ad l.length c l (show l.length ≤ 200000 by omega) _ _ (hs.all (k := 0) rfl rfl)) (fun _ => rfl) rfl rfl fun _ ac w hs => stp (op_alloc hs none none (cs := (tab .u8 32 (fun _ => 0))) rfl rfl zeroValue89 (by kernel_rfl) rfl rfl fun g2 ac w hs => stp (stoo hs 1 ((tab .u8 32 (sha l))) sizeOf89 rfl rfl rfl rfl rfl (by kernel_rfl) tab_length' (tab_one _ _ _) tab_leA wr_tab fun w hs => wpList_nil (then_n (wp_seq (wp_region_lit ?_)))))))))))))
 replace hs := hs.arrCel none 1 (n0 := 32) (f := sha l) rfl (fun j hj => sha_lt l j) (by decide) rfl
 replace hs := hs.selB [0] rfl (by decide)
 refine stp (op_val hs none (v := .slice (some ⟨g2, 0, none⟩) 32 32) rfl rfl (run_slA rfl (hs.ev rfl) underlying89 sizeOf5) fun ac hs => stp (op_callS (F := 55) (ρ := Unit) hs none none (v := fun r => At .u8 32 (sha (btl 32 (sha l)))) (E := fun r => []) (j := 0) rfl rfl rfl rfl (call55 _) (fun hs => sum_c (some ⟨g2, 0, none⟩) 32 32 (btl 32 (sha l)) (show (btl 32 (sha l)).length ≤ 200000 by omega) _ _ (hs.all (k := 1) rfl rfl)) (fun _ => rfl) rfl rfl fun _ ac w hs => stp (stoo hs 0 ((tab .u8 32 (sha (btl 32 (sha l))))) sizeOf89 rfl rfl rfl rfl rfl (by kernel_rfl) tab_length' (tab_one _ _ _) tab_leA wr_tab fun w hs => wpList_nil (then_n (wp_ret ?_)))))
 exact bodyPost_ret (res1 rfl (rv_c hs 0 (v := At .u8 32 (sha (btl 32 (sha l)))) rfl rfl isAgg89 sizeOf89 ldv_tab)) hs.defers ⟨(), rfl, hs.bel rfl, okl0⟩
end Go.Proofs.Ytikkhkjndbicgaa

/- Stacks: one's own copy, the limits, what a machine's small operations do. -/
namespace Go.Proofs.Ytikkhkjndbicgaa
open Go.RowKit _root_.Go.Proofs.Try
set_option maxRecDepth 10000
set_option maxHeartbeats 1000000
theorem inf_slice_34 : Inf prog 34 (.slice none 0 0) 1 24 := inf_of (by kernel_rfl)
theorem clone_o (ad : Option Addr) (nl c : Nat) (l : List UInt8) (hlen : l.length ≤ 100000) (w0 : World) (Z : Nat → Prop) (hl : ByV w0 Z (.slice ad nl c) l): Calls prog 63 #[.slice ad nl c] w0 fun e w' => Ret w0 Z (ρ := Option Addr × Nat) (fun r => .slice r.1 l.length r.2) (fun r => [oW r.1 l.length r.2 5 (bcs l)]) e w' := by
 obtain rfl := byv_len hl
 refine enterS (n := 8) (args := [.slice ad l.length c]) (S := [(true, cL ad l.length c (bcs l))]) (Z := Z) func63 rfl rfl (Nat.le_of_ble_eq_true rfl) (sokC hl sok0) rfl fun ac hs => wp_seq (wp_region_lit (asg hs rfl rfl rfl fun ac hs => wpList_nil (then_n (wp_seq (wp_seq (wp_region_lit (mvv hs rfl rfl rfl fun ac hs => bnn hs (.bool ad.isNone) rfl rfl rfl rfl (bin_eqlNil underlying34) fun ac hs => wpList_nil (then_n (wcs hs rfl ?_ ?_)))))))))
 ·intro hc
  refine wp_seq (wp_region_lit (asg hs rfl rfl rfl fun ac hs => wpList_nil (then_n (wp_ret (then_r ?_)))))
  exact bodyPost_ret (res1 rfl (rv_t hs rfl)) hs.defers ⟨⟨none, 0⟩, congrArg Ending.returned (ret_nil (byv_none hl hc)), hs.bel rfl, okl_nilO (byv_none hl hc)⟩
 intro hc
 refine wp_skip (then_n (wp_seq (wp_region_lit (stp (op_bsO0 hs none none (size := 1) rfl rfl underlying34 inf_u8_5 rfl rfl fun ad2 ac w hs => mvv hs rfl rfl rfl fun ac hs => stp (op_appR hs none 1 0 (N' := l.length) (ys := bcs l) rfl rfl rfl rfl rfl rfl underlying34 inf_u8_5 rfl (by decide) (bcs_len1 rfl) (bcs_one _) (by decide) (show 0 + l.length ≤ 1000000 by omega) (Nat.zero_add _) rfl rfl rfl fun ad3 cp4 ac w hs => asg hs rfl rfl rfl fun ac hs => wpList_nil (then_n (wp_ret ?_))))))))
 exact bodyPost_ret (res1 rfl (rv_t hs rfl)) hs.defers ⟨⟨ad3, cp4⟩, rfl, hs.bel rfl, hs.ret1 1 rfl⟩
theorem own_c (ad : Option Addr) (nl c : Nat) (vs : List Value) (ls : BL) (hB : OkN 8000 ls) (w0 : World) (Z : Nat → Prop) (hV : CelV w0 Z (.slice ad nl c) nl vs) (hn : nl = ls.length) (hY : BysV w0 Z vs ls): Calls prog 42 #[.slice ad nl c] w0 fun e w' => Ret w0 Z (ρ := M1) (fun r => .slice r.a ls.length r.c) (fun r => [oW r.a ls.length r.c 34 r.vs, .bysO r.G r.vs ls]) e w' := by
 subst hn
 have hl8 : ls.length ≤ 8000 := hB.1
 refine enterS (n := 23) (args := [.slice ad ls.length c]) (S := [(true, cL ad ls.length c vs), (true, .bys vs ls)]) (Z := Z) func42 rfl rfl (Nat.le_of_ble_eq_true rfl) (sokC hV (sokC hY sok0)) rfl fun ac hs => wp_seq (wp_region_lit (asg hs rfl rfl rfl fun ac hs => wpList_nil (then_n (wp_seq (wp_region_lit (mvv hs rfl rfl rfl fun ac hs => stp (op_blt hs none (v := ni64 (ls.length)) rfl rfl rfl (blt_len underlying22) rfl fun ac hs => bnn hs (ni64 (ls.length + 4)) rfl rfl rfl rfl (bin_addN (y := 4) rfl (show ls.length + 4 < 9223372036854775808 by omega)) fun ac hs => stp (op_makeO hs none none (c := ls.length + 4) rfl rfl rfl rfl underlying22 inf_slice_34 (show ls.length + 4 ≤ 10000 by omega) rfl (by decide) (by decide) (by decide) rfl rfl fun ad1 ac w hs => asg hs rfl rfl rfl fun ac hs => wpList_nil (then_n (wp_seq (wp_seq ?_)))))))))))
 replace hs := hs.nf w0 Z noX [0, 2, 3] rfl rfl rfl rfl
 refine wp_region_lit (mvv hs rfl rfl rfl fun ac hs => stp (op_blt hs none (v := ni64 (ls.length)) rfl rfl rfl (blt_len underlying22) rfl fun ac hs => mvv hs rfl rfl rfl fun ac hs => wpList_nil (then_n (wp_block ?_))))
 replace hs := hs.nilBysO none rfl
 refine wp_loop_m (fun μ ac w => ∃ (i : Nat) (ao : Option Addr) (co : Nat) (vo : List Value) (G : Nat → Prop), (ls.length - i) = μ ∧ (i ≤ ls.length) ∧ St 23 ⟨w0, [], [(true, cL ad ls.length c vs), (true, .bys vs ls), (true, oW ao ((ls.take i).length) co 34 vo), (true, .bysO G vo (ls.take i))], Z, noX⟩ [(2, true, .slice none 0 0), (10, true, .slice ad ls.length c), (11, true, ni64 (ls.length)), (3, true, .slice ao ((ls.take i).length) co), (12, true, ni64 i)] [] ac w) ?_ ?_
 ·exact ⟨_, 0, ad1, (ls.length + 4), ([]), noX, rfl, (by omega), (hs.re (fs' := [(2, true, .slice none 0 0), (10, true, .slice ad ls.length c), (11, true, ni64 (ls.length)), (3, true, .slice ad1 ((ls.take 0).length) (ls.length + 4)), (12, true, ni64 0)]) ⟨rfl, rfl, rfl, rfl, rfl, trivial⟩)⟩
 intro μ ac w ⟨i, ao, co, vo, G, hμ, hi, hs⟩
 have htl : (ls.take i).length ≤ 8000 := (hB.take i).1
 refine wp_seq (wp_region_lit (bnn hs (.bool (decide (i < ls.length))) rfl rfl rfl rfl bin_lssN fun ac hs => wpList_nil (then_n (wp_seq (wcs hs rfl ?_ ?_)))))
 ·intro hc
  have hp2 := of_decide_eq_true hc
  have hlt := of_decide_eq_true hc
  obtain ⟨li, hli⟩ : ∃ z, ls[i]? = some z := ⟨_, List.getElem?_eq_getElem hlt⟩
  obtain ⟨al, cl, hvl⟩ := bysv_at (hs.all (k := 1) rfl rfl) hli
  have lli : li.length ≤ 8000 := hB.2 _ (List.mem_of_getElem? hli)
  replace hs := hs.pick none 1 rfl hvl hli rfl
  refine wp_skip (then_n (wp_seq (wp_block (wp_seq (wp_region_lit (stp (op_idxC hs none 0 (j := i) rfl rfl rfl rfl rfl underlying22 sizeOf34 (show i < ls.length by omega) (off := i) (by omega) rfl fun ac hs => stp (op_loadC hs none 0 (u := .slice al li.length cl) rfl rfl rfl rfl isAgg34 sizeOf34 (by decide) hvl rfl fun ac hs => asg hs rfl rfl rfl fun ac hs => wpList_nil (then_n (wp_region_lit (mvv hs rfl rfl rfl fun ac hs => mvv hs rfl rfl rfl fun ac hs => stp (op_callV (F := 63) (ρ := Option Addr × Nat) hs none none (v := fun r => .slice r.1 li.length r.2) (E := fun r => [oW r.1 li.length r.2 5 (bcs li)]) (j := 1) rfl rfl rfl rfl (call63 _) (fun hs => clone_o al li.length cl li (Nat.le_trans lli (by decide)) _ _ (hs.celT (k := 4) rfl)) (fun _ => rfl) (fun _ => rfl) rfl rfl fun ⟨ad3, cp4⟩ ac w hs => stp (op_bsO hs none none (qs := [(0, .slice ad3 li.length cp4)]) (cs := [.slice ad3 li.length cp4]) rfl rfl rfl rfl underlying22 inf_slice_34 (by decide) (by decide) (fill_one _ _ rfl) rfl rfl rfl rfl fun ad6 ac w hs => stp (op_appR hs none 2 6 (N' := ((ls.take i) ++ [li]).length) (ys := vo ++ [Value.slice ad3 li.length cp4]) rfl rfl rfl rfl rfl rfl underlying22 inf_slice_34 rfl (by decide) rfl (by intro u hu; obtain rfl := List.mem_singleton.1 hu; rfl) (by decide) (show (ls.take i).length + 1 ≤ 1000000 by first | omega | ((try simp only [List.length_drop, List.length_take, List.length_append, List.length_cons, List.length_nil]); omega)) (by simp) rfl rfl rfl fun ad7 cp8 ac w hs => ?_))))))))))))))
  refine asg hs rfl rfl rfl fun ac hs => wpList_nil (blk_n (then_n ?_))
  replace hs := hs.nf w0 Z noX [2, 10, 11, 3, 12] rfl rfl rfl rfl
  refine wp_region_lit (bnn hs (ni64 (i + 1)) rfl rfl rfl rfl (bin_addN (y := 1) rfl (show i + 1 < 9223372036854775808 by omega)) fun ac hs => mvv hs rfl rfl rfl fun ac hs => wpList_nil (then_n ?_))
  replace hs := hs.snocOwn (ls' := ls.take i ++ [li]) 3 5 rfl rfl rfl
  rw [show ls.take i ++ [li] = ls.take (i + 1) from take_snocB hli] at hs
  replace hs := hs.selS [0, 1, 2, 3] rfl (by decide)
  exact ⟨_, ⟨(i + 1), ad7, cp8, (vo ++ [.slice ad3 li.length cp4]), (GU G (.slice ad3 li.length cp4)), rfl, (by omega), (hs.re (fs' := [(2, true, .slice none 0 0), (10, true, .slice ad ls.length c), (11, true, ni64 (ls.length)), (3, true, .slice ad7 ((ls.take (i + 1)).length) cp8), (12, true, ni64 ((i + 1)))]) ⟨rfl, rfl, rfl, rfl, rfl, trivial⟩)⟩, (by omega)⟩
 intro hc
 have hp9 := of_decide_eq_false hc
 have hge := of_decide_eq_false hc
 rw [List.take_of_length_le (show ls.length ≤ i by omega)] at hs
 refine wp_exit (then_e (then_e (blk_e (then_n (wp_seq (wp_region_lit (mvv hs rfl rfl rfl fun ac hs => asg hs rfl rfl rfl fun ac hs => wpList_nil (then_n (wp_ret ?_)))))))))
 exact bodyPost_ret (res1 rfl (rv_t hs rfl)) hs.defers ⟨⟨ao, co, vo, G⟩, rfl, hs.bel rfl, hs.ret2 2 3 rfl rfl (by decide)⟩
theorem check_c (am : Option Addr) (cm : Nat) (vs : List Value) (aa : Option Addr) (ca : Nat) (us : List Value) (ks js : BL) (rr : Nat) (h1 : ks.length ≤ 1000000) (h2 : js.length ≤ 1000000) (hr : chkL ks js = rr) (w0 : World) (Z : Nat → Prop) (hV : CelV w0 Z (.slice am ks.length cm) ks.length vs) (hY : BysV w0 Z vs ks) (hU : CelV w0 Z (.slice aa js.length ca) js.length us) (hX : BysV w0 Z us js): Calls prog 16 #[.agg #[.slice am ks.length cm, .slice aa js.length ca]] w0 fun e w' => Ret w0 Z (ρ := Unit) (fun r => ni64 rr) (fun r => []) e w' := by
 refine enterS (n := 34) (args := [.agg #[.slice am ks.length cm, .slice aa js.length ca]]) (S := [(true, cL am ks.length cm vs), (true, .bys vs ks), (true, cL aa js.length ca us), (true, .bys us js)]) (Z := Z) func16 rfl rfl (Nat.le_of_ble_eq_true rfl) (sokC hV (sokC hY (sokC hU (sokC hX sok0)))) rfl fun ac hs => wp_seq (wp_region_lit (stp (op_box hs none none (cs := [.slice am ks.length cm, .slice aa js.length ca]) rfl rfl rfl rfl rfl rfl fun g1 ac w hs => asg hs rfl rfl rfl fun ac hs => wpList_nil (then_n (wp_seq (wp_seq (wp_region_lit (stp (op_fieldA hs none rfl rfl rfl underlying24 rfl sizeOf22 (by decide) rfl fun ac hs => ldd hs 0 (.slice am ks.length cm) isAgg22 sizeOf22 rfl rfl rfl rfl rfl fun ac hs => stp (op_fieldA hs none rfl rfl rfl underlying24 rfl sizeOf22 (by decide) rfl fun ac hs => ldd hs 0 (.slice aa js.length ca) isAgg22 sizeOf22 rfl rfl rfl rfl rfl fun ac hs => stp (op_build hs none (qs := [(0, .slice am ks.length cm), (1, .slice aa js.length ca)]) (v := .agg #[.slice am ks.length cm, .slice aa js.length ca]) rfl rfl rfl rfl (fun _ => by kernel_rfl) rfl fun ac hs => ?_)))))))))))
 refine mvv hs rfl rfl rfl fun ac hs => wpList_nil (then_n (wp_block (wp_loop_m (fun μ ac w => (2 = μ ∧ St 34 ⟨w0, [], [(true, cL am ks.length cm vs), (true, .bys vs ks), (true, cL aa js.length ca us), (true, .bys us js)], Z, noX⟩ [(1, true, ptA g1 0), (2, true, .int .i64 0), (11, true, .agg #[.slice am ks.length cm, .slice aa js.length ca]), (12, true, .int .i64 0)] [(true, g1, 24, [.slice am ks.length cm, .slice aa js.length ca])] ac w) ∨ (1 = μ ∧ (longB ks = false) ∧ St 34 ⟨w0, [], [(true, cL am ks.length cm vs), (true, .bys vs ks), (true, cL aa js.length ca us), (true, .bys us js)], Z, noX⟩ [(1, true, ptA g1 0), (2, true, .int .i64 0), (11, true, .agg #[.slice am ks.length cm, .slice aa js.length ca]), (12, true, .int .i64 1)] [(true, g1, 24, [.slice am ks.length cm, .slice aa js.length ca])] ac w) ∨ (0 = μ ∧ (longB ks = false) ∧ (longB js = false) ∧ St 34 ⟨w0, [], [(true, cL am ks.length cm vs), (true, .bys vs ks), (true, cL aa js.length ca us), (true, .bys us js)], Z, noX⟩ [(1, true, ptA g1 0), (2, true, .int .i64 0), (11, true, .agg #[.slice am ks.length cm, .slice aa js.length ca]), (12, true, .int .i64 2)] [(true, g1, 24, [.slice am ks.length cm, .slice aa js.length ca])] ac w)) ?_ ?_)))
 ·exact ⟨_, .inl ⟨rfl, (hs.re (fs' := [(1, true, ptA g1 0), (2, true, .int .i64 0), (11, true, .agg #[.slice am ks.length cm, .slice aa js.length ca]), (12, true, .int .i64 0)]) ⟨rfl, rfl, rfl, rfl, trivial⟩)⟩⟩
 intro μ ac w hJ
 rcases hJ with hJ | hJ | hJ
 ·obtain ⟨rfl, hs⟩ := hJ
  refine wp_seq (wp_region_lit (bnn hs (.bool true) rfl rfl rfl rfl (fun _ => by kernel_rfl) fun ac hs => wpList_nil (then_n (wp_seq (wp_cond_true (hs.ev rfl) (wp_skip (then_n (wp_seq (wp_block (wp_seq (wp_region_lit (stp (op_index hs none (v := .slice am ks.length cm) rfl rfl rfl rfl (fun _ => by kernel_rfl) rfl fun ac hs => asg hs rfl rfl rfl fun ac hs => wpList_nil (then_n (wp_seq (wp_region_lit (mvv hs rfl rfl rfl fun ac hs => stp (op_blt hs none (v := ni64 (ks.length)) rfl rfl rfl (blt_len underlying22) rfl fun ac hs => ?_))))))))))))))))))
  refine mvv hs rfl rfl rfl fun ac hs => wpList_nil (then_n (wp_block (wp_loop_m (fun μ ac w => ∃ (j : Nat), (ks.length - j) = μ ∧ (j ≤ ks.length) ∧ (longB (ks.take j) = false) ∧ St 34 ⟨w0, [], [(true, cL am ks.length cm vs), (true, .bys vs ks), (true, cL aa js.length ca us), (true, .bys us js)], Z, noX⟩ [(1, true, ptA g1 0), (2, true, .int .i64 0), (11, true, .agg #[.slice am ks.length cm, .slice aa js.length ca]), (12, true, .int .i64 0), (15, true, .slice am ks.length cm), (16, true, ni64 (ks.length)), (17, true, ni64 j)] [(true, g1, 24, [.slice am ks.length cm, .slice aa js.length ca])] ac w) ?_ ?_)))
  ·exact ⟨_, 0, rfl, (by omega), rfl, (hs.re (fs' := [(1, true, ptA g1 0), (2, true, .int .i64 0), (11, true, .agg #[.slice am ks.length cm, .slice aa js.length ca]), (12, true, .int .i64 0), (15, true, .slice am ks.length cm), (16, true, ni64 (ks.length)), (17, true, ni64 0)]) ⟨rfl, rfl, rfl, rfl, rfl, rfl, rfl, trivial⟩)⟩
  intro μ ac w ⟨j, hμ, hj, hlj, hs⟩
  refine wp_seq (wp_region_lit (bnn hs (.bool (decide (j < ks.length))) rfl rfl rfl rfl bin_lssN fun ac hs => wpList_nil (then_n (wp_seq (wcs hs rfl ?_ ?_)))))
  ·intro hc
   have hp2 := of_decide_eq_true hc
   have hlt := of_decide_eq_true hc
   obtain ⟨li, hli⟩ : ∃ z, ks[j]? = some z := ⟨_, List.getElem?_eq_getElem hlt⟩
   obtain ⟨al, cl, hvl⟩ := bysv_at (hs.all (k := 1) rfl rfl) hli
   refine wp_skip (then_n (wp_seq (wp_block (wp_seq (wp_region_lit (stp (op_idxC hs none 0 (j := j) rfl rfl rfl rfl rfl underlying22 sizeOf34 (show j < ks.length by omega) (off := j) (by omega) rfl fun ac hs => stp (op_loadC hs none 0 (u := .slice al li.length cl) rfl rfl rfl rfl isAgg34 sizeOf34 (by decide) hvl rfl fun ac hs => asg hs rfl rfl rfl fun ac hs => wpList_nil (then_n (wp_seq (wp_region_lit (mvv hs rfl rfl rfl fun ac hs => stp (op_blt hs none (v := ni64 (li.length)) rfl rfl rfl (blt_len underlying34) rfl fun ac hs => bnn hs (.bool (decide (520 < li.length))) rfl rfl rfl rfl (bin_gtrN (y := 520)) fun ac hs => wpList_nil (then_n (wcs hs rfl ?_ ?_)))))))))))))))
   ·intro hc
    have hp3 := of_decide_eq_true hc
    refine wp_seq ?_
    replace hs := hs.nf w0 Z noX [1, 2, 11, 12, 15, 16, 17] rfl rfl rfl rfl
    refine wp_region_lit (asg hs rfl rfl rfl fun ac hs => wpList_nil (then_n (wp_ret (blk_r (then_r (then_r (blk_r (blk_r (then_r (then_r (blk_r (then_r ?_))))))))))))
    exact bodyPost_ret (res1 rfl (rv_t hs rfl)) hs.defers ⟨(), by rw [← hr, chkL, if_pos (Or.inl (longB_yes hli hp3))]; rfl, hs.bel rfl, okl0⟩
   intro hc
   have hp4 := of_decide_eq_false hc
   refine wp_skip (blk_n (then_n ?_))
   replace hs := hs.nf w0 Z noX [1, 2, 11, 12, 15, 16, 17] rfl rfl rfl rfl
   refine wp_region_lit (bnn hs (ni64 (j + 1)) rfl rfl rfl rfl (bin_addN (y := 1) rfl (show j + 1 < 9223372036854775808 by omega)) fun ac hs => mvv hs rfl rfl rfl fun ac hs => wpList_nil (then_n ?_))
   exact ⟨_, ⟨(j + 1), rfl, (by omega), (longB_go hli hp4 hlj), (hs.re (fs' := [(1, true, ptA g1 0), (2, true, .int .i64 0), (11, true, .agg #[.slice am ks.length cm, .slice aa js.length ca]), (12, true, .int .i64 0), (15, true, .slice am ks.length cm), (16, true, ni64 (ks.length)), (17, true, ni64 ((j + 1)))]) ⟨rfl, rfl, rfl, rfl, rfl, rfl, rfl, trivial⟩)⟩, (by omega)⟩
  intro hc
  have hp5 := of_decide_eq_false hc
  refine wp_exit (then_e (then_e (blk_e (blk_n (then_n (wp_region_lit (bnn hs (.int .i64 1) rfl rfl rfl rfl (fun _ => by kernel_rfl) fun ac hs => mvv hs rfl rfl rfl fun ac hs => wpList_nil (then_n ?_))))))))
  exact ⟨_, .inr (.inl ⟨rfl, (longB_end hp5 hlj), (hs.re (fs' := [(1, true, ptA g1 0), (2, true, .int .i64 0), (11, true, .agg #[.slice am ks.length cm, .slice aa js.length ca]), (12, true, .int .i64 1)]) ⟨rfl, rfl, rfl, rfl, trivial⟩)⟩), by omega⟩
 ·obtain ⟨rfl, hb1, hs⟩ := hJ
  refine wp_seq (wp_region_lit (bnn hs (.bool true) rfl rfl rfl rfl (fun _ => by kernel_rfl) fun ac hs => wpList_nil (then_n (wp_seq (wp_cond_true (hs.ev rfl) (wp_skip (then_n (wp_seq (wp_block (wp_seq (wp_region_lit (stp (op_index hs none (v := .slice aa js.length ca) rfl rfl rfl rfl (fun _ => by kernel_rfl) rfl fun ac hs => asg hs rfl rfl rfl fun ac hs => wpList_nil (then_n (wp_seq (wp_region_lit (mvv hs rfl rfl rfl fun ac hs => stp (op_blt hs none (v := ni64 (js.length)) rfl rfl rfl (blt_len underlying22) rfl fun ac hs => ?_))))))))))))))))))
  refine mvv hs rfl rfl rfl fun ac hs => wpList_nil (then_n (wp_block (wp_loop_m (fun μ ac w => ∃ (j : Nat), (js.length - j) = μ ∧ (j ≤ js.length) ∧ (longB (js.take j) = false) ∧ St 34 ⟨w0, [], [(true, cL am ks.length cm vs), (true, .bys vs ks), (true, cL aa js.length ca us), (true, .bys us js)], Z, noX⟩ [(1, true, ptA g1 0), (2, true, .int .i64 0), (11, true, .agg #[.slice am ks.length cm, .slice aa js.length ca]), (12, true, .int .i64 1), (15, true, .slice aa js.length ca), (16, true, ni64 (js.length)), (17, true, ni64 j)] [(true, g1, 24, [.slice am ks.length cm, .slice aa js.length ca])] ac w) ?_ ?_)))
  ·exact ⟨_, 0, rfl, (by omega), rfl, (hs.re (fs' := [(1, true, ptA g1 0), (2, true, .int .i64 0), (11, true, .agg #[.slice am ks.length cm, .slice aa js.length ca]), (12, true, .int .i64 1), (15, true, .slice aa js.length ca), (16, true, ni64 (js.length)), (17, true, ni64 0)]) ⟨rfl, rfl, rfl, rfl, rfl, rfl, rfl, trivial⟩)⟩
  intro μ ac w ⟨j, hμ, hj, hlj, hs⟩
  refine wp_seq (wp_region_lit (bnn hs (.bool (decide (j < js.length))) rfl rfl rfl rfl bin_lssN fun ac hs => wpList_nil (then_n (wp_seq (wcs hs rfl ?_ ?_)))))
  ·intro hc
   have hp6 := of_decide_eq_true hc
   have hlt := of_decide_eq_true hc
   obtain ⟨li, hli⟩ : ∃ z, js[j]? = some z := ⟨_, List.getElem?_eq_getElem hlt⟩
   obtain ⟨al, cl, hvl⟩ := bysv_at (hs.all (k := 3) rfl rfl) hli
   refine wp_skip (then_n (wp_seq (wp_block (wp_seq (wp_region_lit (stp (op_idxC hs none 2 (j := j) rfl rfl rfl rfl rfl underlying22 sizeOf34 (show j < js.length by omega) (off := j) (by omega) rfl fun ac hs => stp (op_loadC hs none 2 (u := .slice al li.length cl) rfl rfl rfl rfl isAgg34 sizeOf34 (by decide) hvl rfl fun ac hs => asg hs rfl rfl rfl fun ac hs => wpList_nil (then_n (wp_seq (wp_region_lit (mvv hs rfl rfl rfl fun ac hs => stp (op_blt hs none (v := ni64 (li.length)) rfl rfl rfl (blt_len underlying34) rfl fun ac hs => bnn hs (.bool (decide (520 < li.length))) rfl rfl rfl rfl (bin_gtrN (y := 520)) fun ac hs => wpList_nil (then_n (wcs hs rfl ?_ ?_)))))))))))))))
   ·intro hc
    have hp7 := of_decide_eq_true hc
    refine wp_seq ?_
    replace hs := hs.nf w0 Z noX [1, 2, 11, 12, 15, 16, 17] rfl rfl rfl rfl
    refine wp_region_lit (asg hs rfl rfl rfl fun ac hs => wpList_nil (then_n (wp_ret (blk_r (then_r (then_r (blk_r (blk_r (then_r (then_r (blk_r (then_r ?_))))))))))))
    exact bodyPost_ret (res1 rfl (rv_t hs rfl)) hs.defers ⟨(), by rw [← hr, chkL, if_pos (Or.inr (longB_yes hli hp7))]; rfl, hs.bel rfl, okl0⟩
   intro hc
   have hp8 := of_decide_eq_false hc
   refine wp_skip (blk_n (then_n ?_))
   replace hs := hs.nf w0 Z noX [1, 2, 11, 12, 15, 16, 17] rfl rfl rfl rfl
   refine wp_region_lit (bnn hs (ni64 (j + 1)) rfl rfl rfl rfl (bin_addN (y := 1) rfl (show j + 1 < 9223372036854775808 by omega)) fun ac hs => mvv hs rfl rfl rfl fun ac hs => wpList_nil (then_n ?_))
   exact ⟨_, ⟨(j + 1), rfl, (by omega), (longB_go hli hp8 hlj), (hs.re (fs' := [(1, true, ptA g1 0), (2, true, .int .i64 0), (11, true, .agg #[.slice am ks.length cm, .slice aa js.length ca]), (12, true, .int .i64 1), (15, true, .slice aa js.length ca), (16, true, ni64 (js.length)), (17, true, ni64 ((j + 1)))]) ⟨rfl, rfl, rfl, rfl, rfl, rfl, rfl, trivial⟩)⟩, (by omega)⟩
  intro hc
  have hp9 := of_decide_eq_false hc
  refine wp_exit (then_e (then_e (blk_e (blk_n (then_n (wp_region_lit (bnn hs (.int .i64 2) rfl rfl rfl rfl (fun _ => by kernel_rfl) fun ac hs => mvv hs rfl rfl rfl fun ac hs => wpList_nil (then_n ?_))))))))
  exact ⟨_, .inr (.inr (⟨rfl, hb1, (longB_end hp9 hlj), (hs.re (fs' := [(1, true, ptA g1 0), (2, true, .int .i64 0), (11, true, .agg #[.slice am ks.length cm, .slice aa js.length ca]), (12, true, .int .i64 2)]) ⟨rfl, rfl, rfl, rfl, trivial⟩)⟩)), by omega⟩
 ·obtain ⟨rfl, hb1, hb2, hs⟩ := hJ
  refine wp_seq (wp_region_lit (bnn hs (.bool false) rfl rfl rfl rfl (fun _ => by kernel_rfl) fun ac hs => wpList_nil (then_n (wp_seq (wp_cond_false (hs.ev rfl) (wp_exit (then_e (then_e (blk_e (then_n (wp_seq (wp_seq (wp_region_lit (stp (op_fieldA hs none rfl rfl rfl underlying24 rfl sizeOf22 (by decide) rfl fun ac hs => ldd hs 0 (.slice am ks.length cm) isAgg22 sizeOf22 rfl rfl rfl rfl rfl fun ac hs => stp (op_blt hs none (v := ni64 (ks.length)) rfl rfl rfl (blt_len underlying22) rfl fun ac hs => stp (op_fieldA hs none rfl rfl rfl underlying24 rfl sizeOf22 (by decide) rfl fun ac hs => ldd hs 0 (.slice aa js.length ca) isAgg22 sizeOf22 rfl rfl rfl rfl rfl fun ac hs => ?_)))))))))))))))))
  refine stp (op_blt hs none (v := ni64 (js.length)) rfl rfl rfl (blt_len underlying22) rfl fun ac hs => bnn hs (ni64 (ks.length + js.length)) rfl rfl rfl rfl (bin_addN rfl (show ks.length + js.length < 9223372036854775808 by omega)) fun ac hs => bnn hs (.bool (decide (100 < ks.length + js.length))) rfl rfl rfl rfl (bin_gtrN (y := 100)) fun ac hs => wpList_nil (then_n (wcs hs rfl ?_ ?_)))
  ·intro hc
   have hp10 := of_decide_eq_true hc
   refine wp_seq ?_
   replace hs := hs.nf w0 Z noX [2] rfl rfl rfl rfl
   refine wp_region_lit (asg hs rfl rfl rfl fun ac hs => wpList_nil (then_n (wp_ret (then_r ?_))))
   exact bodyPost_ret (res1 rfl (rv_t hs rfl)) hs.defers ⟨(), by rw [← hr, chkL, if_neg (by simp [hb1, hb2]), if_pos hp10]; rfl, hs.bel rfl, okl0⟩
  intro hc
  have hp11 := of_decide_eq_false hc
  refine wp_skip (then_n (wp_seq ?_))
  replace hs := hs.nf w0 Z noX [2] rfl rfl rfl rfl
  refine wp_region_lit (asg hs rfl rfl rfl fun ac hs => wpList_nil (then_n (wp_ret ?_)))
  exact bodyPost_ret (res1 rfl (rv_t hs rfl)) hs.defers ⟨(), by rw [← hr, chkL, if_neg (by simp [hb1, hb2]), if_neg hp11]; rfl, hs.bel rfl, okl0⟩
theorem fail_c (gm : Nat) (v1 v2 : Value) (er kk e1 : Nat) (hr : failE er kk = e1) (w0 : World) (Z X : Nat → Prop) (hm : Mem ⟨w0, [], [], Z, X⟩ [(true, gm, 61, [v1, v2, ni64 er])] w0) : Calls prog 65 #[ptA gm 0, ni64 kk] w0 fun e w' => PostX w0 Z X (ρ := Unit) (fun r => .tuple #[]) (fun r => [(true, gm, 61, [v1, v2, ni64 e1])]) (fun r => []) e w' := by
 refine enterX (n := 13) (args := [ptA gm 0, ni64 kk]) func65 rfl rfl (Nat.le_of_ble_eq_true rfl) hm fun ac hs => wp_seq (wp_region_lit (mvv hs rfl rfl rfl fun ac hs => stp (op_nilCheck hs none rfl rfl rfl rfl fun ac hs => stp (op_fieldA hs none rfl rfl rfl underlying61 rfl sizeOf28 (by decide) rfl fun ac hs => ldd hs 0 (ni64 er) isAgg28 sizeOf28 rfl rfl rfl rfl rfl fun ac hs => bnn hs (.bool (decide (er = 0))) rfl rfl rfl rfl (bin_eqlN (y := 0)) fun ac hs => wpList_nil (then_n (wcs hs rfl ?_ ?_))))))
 ·intro hc
  have hp1 := of_decide_eq_true hc
  refine wp_region_lit (mvv hs rfl rfl rfl fun ac hs => mvv hs rfl rfl rfl fun ac hs => stp (op_nilCheck hs none rfl rfl rfl rfl fun ac hs => stp (op_fieldA hs none rfl rfl rfl underlying61 rfl sizeOf28 (by decide) rfl fun ac hs => stp (stoo hs 0 ([ni64 kk]) sizeOf28 rfl rfl rfl rfl rfl rfl rfl rfl rfl rfl fun w hs => wpList_nil ?_))))
  obtain rfl := (if_pos hp1 : failE er kk = _).symm.trans hr
  exact bodyPost_end (res0 rfl) hs.defers ⟨(), rfl, ((hs.selS [] rfl (by decide)).selB [0] rfl (by decide)).mem⟩
 intro hc
 have hp2 := of_decide_eq_false hc
 refine wp_skip ?_
 obtain rfl := (if_neg hp2 : failE er kk = _).symm.trans hr
 exact bodyPost_end (res0 rfl) hs.defers ⟨(), rfl, ((hs.selS [] rfl (by decide)).selB [0] rfl (by decide)).mem⟩
theorem needs_c (gm : Nat) (am : Option Addr) (N cm : Nat) (v2 : Value) (er n e1 : Nat) (q : Bool) (hr : needE N n er = e1) (hq : decide (e1 = 0) = q) (w0 : World) (Z X : Nat → Prop) (hm : Mem ⟨w0, [], [], Z, X⟩ [(true, gm, 61, [.slice am N cm, v2, ni64 er])] w0) : Calls prog 48 #[ptA gm 0, ni64 n] w0 fun e w' => PostX w0 Z X (ρ := Unit) (fun r => .bool q) (fun r => [(true, gm, 61, [.slice am N cm, v2, ni64 e1])]) (fun r => []) e w' := by
 refine enterX (n := 19) (args := [ptA gm 0, ni64 n]) func48 rfl rfl (Nat.le_of_ble_eq_true rfl) hm fun ac hs => wp_seq (wp_region_lit (asg hs rfl rfl rfl fun ac hs => wpList_nil (then_n (wp_seq (wp_seq (wp_region_lit (mvv hs rfl rfl rfl fun ac hs => stp (op_nilCheck hs none rfl rfl rfl rfl fun ac hs => stp (op_fieldA hs none rfl rfl rfl underlying61 rfl sizeOf22 (by decide) rfl fun ac hs => ldd hs 0 (.slice am N cm) isAgg22 sizeOf22 rfl rfl rfl rfl rfl fun ac hs => stp (op_blt hs none (v := ni64 N) rfl rfl rfl (blt_len underlying22) rfl fun ac hs => mvv hs rfl rfl rfl fun ac hs => ?_))))))))))
 refine bnn hs (.bool (decide (N < n))) rfl rfl rfl rfl bin_lssN fun ac hs => wpList_nil (then_n (wcs hs rfl ?_ ?_))
 ·intro hc
  have hp1 := of_decide_eq_true hc
  replace hs := hs.nf w0 Z X [0, 4] rfl rfl rfl rfl
  refine wp_region_lit (mvv hs rfl rfl rfl fun ac hs => ?_)
  obtain ⟨e2, he2⟩ := ex1 (failE er 12)
  refine stp (op_callX (F := 65) (ρ := Unit) hs none none [0] [] (v := fun r => .tuple #[]) (S1 := []) (bs1 := [(true, gm, 61, [.slice am N cm, v2, ni64 er])]) (E := fun r => []) (E1 := fun r => []) (E2 := fun r => []) (bfA := fun r => [(true, gm, 61, [.slice am N cm, v2, ni64 e2])]) (bf := fun r => [(true, gm, 61, [.slice am N cm, v2, ni64 e2])]) (bf2 := fun r => []) rfl rfl rfl rfl rfl (call65 _) rfl rfl (by decide) (by decide) (fun Z X hm => fail_c gm (.slice am N cm) v2 er 12 e2 he2 _ _ _ hm) (fun _ => rfl) (fun _ => rfl) (fun _ => rfl) (fun _ => rfl) (fun _ => rfl) rfl fun _ ac w hs => wpList_nil (then_n (wp_seq (wp_region_lit (mvv hs rfl rfl rfl fun ac hs => stp (op_nilCheck hs none rfl rfl rfl rfl fun ac hs => stp (op_fieldA hs none rfl rfl rfl underlying61 rfl sizeOf28 (by decide) rfl fun ac hs => ldd hs 0 (ni64 e2) isAgg28 sizeOf28 rfl rfl rfl rfl rfl fun ac hs => bnn hs (.bool (decide (e2 = 0))) rfl rfl rfl rfl (bin_eqlN (y := 0)) fun ac hs => asg hs rfl rfl rfl fun ac hs => wpList_nil (then_n (wp_ret ?_)))))))))
  obtain rfl := ((if_pos hp1 : needE N n er = _).symm.trans hr)
  rw [show e2 = failE er 12 from he2.symm] at hs
  subst hq
  exact bodyPost_ret (res1 rfl (rv_t hs rfl)) hs.defers ⟨(), rfl, ((hs.selS [] rfl (by decide)).selB [0] rfl (by decide)).mem⟩
 intro hc
 have hp3 := of_decide_eq_false hc
 refine wp_skip (then_n (wp_seq ?_))
 replace hs := hs.nf w0 Z X [0, 4] rfl rfl rfl rfl
 refine wp_region_lit (mvv hs rfl rfl rfl fun ac hs => stp (op_nilCheck hs none rfl rfl rfl rfl fun ac hs => stp (op_fieldA hs none rfl rfl rfl underlying61 rfl sizeOf28 (by decide) rfl fun ac hs => ldd hs 0 (ni64 er) isAgg28 sizeOf28 rfl rfl rfl rfl rfl fun ac hs => bnn hs (.bool (decide (er = 0))) rfl rfl rfl rfl (bin_eqlN (y := 0)) fun ac hs => asg hs rfl rfl rfl fun ac hs => wpList_nil (then_n (wp_ret ?_)))))
 obtain rfl := ((if_neg hp3 : needE N n er = _).symm.trans hr)
 subst hq
 exact bodyPost_ret (res1 rfl (rv_t hs rfl)) hs.defers ⟨(), rfl, ((hs.selS [] rfl (by decide)).selB [0] rfl (by decide)).mem⟩
theorem must_c (gm : Nat) (v1 v2 : Value) (er : Nat) (b : Bool) (e1 : Nat) (hr : mustE b er = e1) (w0 : World) (Z X : Nat → Prop) (hm : Mem ⟨w0, [], [], Z, X⟩ [(true, gm, 61, [v1, v2, ni64 er])] w0) : Calls prog 46 #[ptA gm 0, .bool b] w0 fun e w' => PostX w0 Z X (ρ := Unit) (fun r => .tuple #[]) (fun r => [(true, gm, 61, [v1, v2, ni64 e1])]) (fun r => []) e w' := by
 refine enterX (n := 8) (args := [ptA gm 0, .bool b]) func46 rfl rfl (Nat.le_of_ble_eq_true rfl) hm fun ac hs => wp_seq (wp_region_lit (mvv hs rfl rfl rfl fun ac hs => stp (op_un hs none (v := .bool (!b)) rfl rfl rfl (fun _ => rfl) rfl fun ac hs => wpList_nil (then_n (wcs hs rfl ?_ ?_)))))
 ·intro hc
  refine wp_region_lit (mvv hs rfl rfl rfl fun ac hs => ?_)
  obtain ⟨e1, he1⟩ := ex1 (failE er 16)
  refine stp (op_callX (F := 65) (ρ := Unit) hs none none [0] [] (v := fun r => .tuple #[]) (S1 := []) (bs1 := [(true, gm, 61, [v1, v2, ni64 er])]) (E := fun r => []) (E1 := fun r => []) (E2 := fun r => []) (bfA := fun r => [(true, gm, 61, [v1, v2, ni64 e1])]) (bf := fun r => [(true, gm, 61, [v1, v2, ni64 e1])]) (bf2 := fun r => []) rfl rfl rfl rfl rfl (call65 _) rfl rfl (by decide) (by decide) (fun Z X hm => fail_c gm v1 v2 er 16 e1 he1 _ _ _ hm) (fun _ => rfl) (fun _ => rfl) (fun _ => rfl) (fun _ => rfl) (fun _ => rfl) rfl fun _ ac w hs => wpList_nil ?_)
  obtain rfl : b = false := by simpa using hc
  obtain rfl := (rfl : mustE false er = failE er 16).symm.trans hr
  rw [show e1 = failE er 16 from he1.symm] at hs
  exact bodyPost_end (res0 rfl) hs.defers ⟨(), rfl, ((hs.selS [] rfl (by decide)).selB [0] rfl (by decide)).mem⟩
 intro hc
 refine wp_skip ?_
 obtain rfl : b = true := by simpa using hc
 obtain rfl := (rfl : mustE true er = er).symm.trans hr
 exact bodyPost_end (res0 rfl) hs.defers ⟨(), rfl, ((hs.selS [] rfl (by decide)).selB [0] rfl (by decide)).mem⟩
theorem top_c (gm : Nat) (am : Option Addr) (cm : Nat) (vs : List Value) (ks : BL) (v2 : Value) (er n : Nat) (v : Value) (hn : n < ks.length) (hv : vs[ks.length - 1 - n]? = some v) (ok : OkN 8000 ks) (w0 : World) (Z X : Nat → Prop) (hm : Mem ⟨w0, [], [(true, oW am ks.length cm 34 vs)], Z, X⟩ [(true, gm, 61, [.slice am ks.length cm, v2, ni64 er])] w0) : Calls prog 49 #[ptA gm 0, ni64 n] w0 fun e w' => PostX w0 Z X (ρ := Unit) (fun r => v) (fun r => [(true, gm, 61, [.slice am ks.length cm, v2, ni64 er])]) (fun r => [(true, oW am ks.length cm 34 vs)]) e w' := by
 have hk8 : ks.length ≤ 8000 := ok.1
 refine enterX (n := 19) (args := [ptA gm 0, ni64 n]) func49 rfl rfl (Nat.le_of_ble_eq_true rfl) hm fun ac hs => wp_seq (wp_region_lit (asg hs rfl rfl rfl fun ac hs => wpList_nil (then_n (wp_seq ?_))))
 replace hs := hs.nf w0 Z X [0, 1, 4] rfl rfl rfl rfl
 refine region_inv [([], [1, 2, 3, 12, 13, 14]), ([0], [2, 3, 12, 13, 14]), ([0, 1], [3, 12, 13, 14]), ([0, 1, 2], [12, 13, 14]), ([], [5, 6, 7, 8, 9, 11, 12, 13, 14]), ([4], [6, 7, 8, 9, 11, 12, 13, 14]), ([4, 5], [7, 8, 9, 11, 12, 13, 14]), ([4, 5, 6], [8, 9, 11, 12, 13, 14]), (rgn 4 4, [9, 11, 12, 13, 14]), (rgn 4 5, rgn 11 4), ([], rgn 11 4), (rgn 4 7, [12, 13, 14]), (rgn 0 12, [13, 14]), (rgn 0 13, [14]), (rgn 0 14, [])] (fun L ac w => St 19 ⟨w0, [], [(true, oW am ks.length cm 34 vs)], Z, X⟩ [(5, L 0, ptA gm 0), (6, L 1, ptA gm 0), (7, L 2, ptA gm 0), (8, L 3, .slice am ks.length cm), (9, L 4, ptA gm 0), (10, L 5, ptA gm 0), (11, L 6, ptA gm 0), (12, L 7, .slice am ks.length cm), (13, L 8, ni64 (ks.length)), (14, L 9, ni64 (ks.length - 1)), (15, L 10, ni64 n), (16, L 11, ni64 (ks.length - 1 - n)), (17, L 12, vidx (.slice am ks.length cm) (ks.length - 1 - n)), (18, L 13, v), (4, L 14, v), (0, true, ptA gm 0), (1, true, ni64 n), (4, true, .slice none 0 0)] [(true, gm, 61, [.slice am ks.length cm, v2, ni64 er])] ac w) (by kernel_rfl) (by kernel_rfl) ?_ ?_ ?_
 ·exact hs.drew.s4.s4.s4.skip.skip.skip
 ·refine ⟨?_, ?_, ?_, ?_, ?_, ?_, ?_, ?_, ?_, ?_, ?_, ?_, ?_, ?_, ?_, trivial⟩
  ·exact fun L ac w hs => pln (omv hs 0 rfl rfl rfl fun ac hs => hs)
  ·exact fun L ac w hs => pln (op_nilCheck hs (some 1) rfl rfl rfl rfl fun ac hs => hs)
  ·exact fun L ac w hs => pln (op_fieldA hs (some 2) rfl rfl rfl underlying61 rfl sizeOf22 (by decide) rfl fun ac hs => hs)
  ·exact fun L ac w hs => pln (oldd hs 3 0 (.slice am ks.length cm) isAgg22 sizeOf22 rfl rfl rfl rfl rfl fun ac hs => hs)
  ·exact fun L ac w hs => pln (omv hs 4 rfl rfl rfl fun ac hs => hs)
  ·exact fun L ac w hs => pln (op_nilCheck hs (some 5) rfl rfl rfl rfl fun ac hs => hs)
  ·exact fun L ac w hs => pln (op_fieldA hs (some 6) rfl rfl rfl underlying61 rfl sizeOf22 (by decide) rfl fun ac hs => hs)
  ·exact fun L ac w hs => pln (oldd hs 7 0 (.slice am ks.length cm) isAgg22 sizeOf22 rfl rfl rfl rfl rfl fun ac hs => hs)
  ·exact fun L ac w hs => pln (op_blt hs (some 8) (v := ni64 (ks.length)) rfl rfl rfl (blt_len underlying22) rfl fun ac hs => hs)
  ·exact fun L ac w hs => pln (obn hs 9 (ni64 (ks.length - 1)) rfl rfl rfl rfl (bin_subN (y := 1) (by omega) (show ks.length - 1 < 9223372036854775808 by omega)) fun ac hs => hs)
  ·exact fun L ac w hs => pln (omv hs 10 rfl rfl rfl fun ac hs => hs)
  ·exact fun L ac w hs => pln (obn hs 11 (ni64 (ks.length - 1 - n)) rfl rfl rfl rfl (bin_subN (by omega) (show ks.length - 1 - n < 9223372036854775808 by omega)) fun ac hs => hs)
  ·exact fun L ac w hs => pln (op_idxC hs (some 12) 0 (j := ks.length - 1 - n) rfl rfl rfl rfl rfl underlying22 sizeOf34 (show ks.length - 1 - n < ks.length by omega) (off := ks.length - 1 - n) (by omega) rfl fun ac hs => hs)
  ·exact fun L ac w hs => pln (op_loadC hs (some 13) 0 (u := v) rfl rfl rfl rfl isAgg34 sizeOf34 (by decide) hv rfl fun ac hs => hs)
  ·exact fun L ac w hs => pln (oas hs 14 rfl rfl rfl fun ac hs => hs)
 intro ac w hs
 try dsimp only [cond_true] at hs
 refine then_n (wp_ret ?_)
 exact bodyPost_ret (res1 rfl (rv_t hs rfl)) hs.defers ⟨(), rfl, ((hs.selS [0] rfl (by decide)).selB [0] rfl (by decide)).mem⟩
theorem read_c (gm : Nat) (v1 v2 : Value) (G : Nat → Prop) (VS : List Value) (LS : BL) (ax : Option Addr) (cx : Nat) (x : List UInt8) (most : Int) (er : Nat) (z : Int) (e1 : Nat) (hx : x.length ≤ 8000) (hxm : (Value.slice ax x.length cx, x) ∈ VS.zip LS) (hz : readL x most er = (z, e1)) (w0 : World) (Z X : Nat → Prop) (hm : Mem ⟨w0, [], [(true, .bysO G VS LS)], Z, X⟩ [(true, gm, 61, [v1, v2, ni64 er])] w0) : Calls prog 40 #[ptA gm 0, .slice ax x.length cx, .int .i64 most] w0 fun e w' => PostX w0 Z X (ρ := Unit) (fun r => .int .i64 z) (fun r => [(true, gm, 61, [v1, v2, ni64 e1])]) (fun r => [(true, .bysO G VS LS)]) e w' := by
 refine enterX (n := 24) (args := [ptA gm 0, .slice ax x.length cx, .int .i64 most]) func40 rfl rfl (Nat.le_of_ble_eq_true rfl) hm fun ac hs => wp_seq (wp_region_lit (asg hs rfl rfl rfl fun ac hs => wpList_nil (then_n (wp_seq (wp_seq (wp_region_lit (mvv hs rfl rfl rfl fun ac hs => stp (op_nilCheck hs none rfl rfl rfl rfl fun ac hs => stp (op_fieldA hs none rfl rfl rfl underlying61 rfl sizeOf28 (by decide) rfl fun ac hs => ldd hs 0 (ni64 er) isAgg28 sizeOf28 rfl rfl rfl rfl rfl fun ac hs => bnn hs (.bool (decide (er ≠ 0))) rfl rfl rfl rfl (bin_neqN (y := 0)) fun ac hs => wpList_nil (then_n ?_))))))))))
 refine wcs hs rfl ?_ ?_
 ·intro hc
  have hp1 := of_decide_eq_true hc
  refine wp_seq ?_
  replace hs := hs.nf w0 Z X [0, 1, 2, 6] rfl rfl rfl rfl
  refine wp_region_lit (asg hs rfl rfl rfl fun ac hs => wpList_nil (then_n (wp_ret (then_r ?_))))
  obtain ⟨rfl, rfl⟩ := Prod.mk.inj ((if_neg hp1 : readL x most er = _).symm.trans hz)
  exact bodyPost_ret (res1 rfl (rv_t hs rfl)) hs.defers ⟨(), rfl, ((hs.selS [0] rfl (by decide)).selB [0] rfl (by decide)).mem⟩
 intro hc
 have hp2 := of_decide_eq_false hc
 refine wp_skip (then_n (wp_seq ?_))
 replace hs := hs.nf w0 Z X [0, 1, 2, 6] rfl rfl rfl rfl
 refine wp_region_lit (mvv hs rfl rfl rfl fun ac hs => mvv hs rfl rfl rfl fun ac hs => ?_)
 obtain ⟨z3, e4, hz3⟩ := ex2 (decN x most)
 refine stp (op_callV (F := 64) (ρ := Unit) hs none none (v := fun r => .tuple #[.int .i64 z3, ni64 e4]) (E := fun r => []) (j := 0) rfl rfl rfl rfl (call64 _) (fun hs => dec_c ax x.length cx x (Nat.le_trans hx (by decide)) most z3 e4 hz3 _ _ (hs.itemZ (k := 0) rfl hxm)) (fun _ => rfl) (fun _ => rfl) rfl rfl fun _ ac w hs => mvv hs rfl rfl rfl fun ac hs => stp (xtr hs none rfl rfl rfl rfl rfl fun ac hs => stp (xtr hs none rfl rfl rfl rfl rfl fun ac hs => asg hs rfl rfl rfl fun ac hs => asg hs rfl rfl rfl fun ac hs => wpList_nil (then_n (wp_seq ?_)))))
 replace hs := hs.nf w0 Z X [0, 6, 7, 8] rfl rfl rfl rfl
 refine wp_region_lit (mvv hs rfl rfl rfl fun ac hs => mvv hs rfl rfl rfl fun ac hs => ?_)
 obtain ⟨e5, he5⟩ := ex1 (failE er e4)
 refine stp (op_callX (F := 65) (ρ := Unit) hs none none [0] [] (v := fun r => .tuple #[]) (S1 := []) (bs1 := [(true, gm, 61, [v1, v2, ni64 er])]) (E := fun r => []) (E1 := fun r => []) (E2 := fun r => []) (bfA := fun r => [(true, gm, 61, [v1, v2, ni64 e5])]) (bf := fun r => [(true, gm, 61, [v1, v2, ni64 e5])]) (bf2 := fun r => []) rfl rfl rfl rfl rfl (call65 _) rfl rfl (by decide) (by decide) (fun Z X hm => fail_c gm v1 v2 er e4 e5 he5 _ _ _ hm) (fun _ => rfl) (fun _ => rfl) (fun _ => rfl) (fun _ => rfl) (fun _ => rfl) rfl fun _ ac w hs => wpList_nil (then_n (wp_seq (wp_region_lit (mvv hs rfl rfl rfl fun ac hs => asg hs rfl rfl rfl fun ac hs => wpList_nil (then_n (wp_ret ?_)))))))
 obtain rfl : er = 0 := by omega
 rw [show failE 0 e4 = e4 from rfl] at he5
 subst he5
 obtain ⟨rfl, rfl⟩ := Prod.mk.inj ((hz3 : readL x most 0 = _).symm.trans hz)
 exact bodyPost_ret (res1 rfl (rv_t hs rfl)) hs.defers ⟨(), rfl, ((hs.selS [0] rfl (by decide)).selB [0] rfl (by decide)).mem⟩
theorem pushP_c (gm : Nat) (am : Option Addr) (cm : Nat) (vs : List Value) (aa : Option Addr) (ca : Nat) (us : List Value) (G : Nat → Prop) (xs : List Value) (ts : BL) (ks js : BL) (er : Nat) (al : Option Addr) (cl : Nat) (ax : Option Addr) (cx : Nat) (x : List UInt8) (hx : x.length ≤ 8000) (ok : OkN 8000 ks) (hxm : (Value.slice ax x.length cx, x) ∈ (vs ++ us ++ xs).zip (ks ++ js ++ ts)) (w0 : World) (Z X : Nat → Prop) (hm : Mem ⟨w0, [], [(true, oW am ks.length cm 34 vs), (true, oW aa js.length ca 34 us), (true, .bysO G (vs ++ us ++ xs) (ks ++ js ++ ts)), (true, cL al 1 cl ([.slice ax x.length cx]))], Z, X⟩ [(true, gm, 61, [.slice am ks.length cm, .slice aa js.length ca, ni64 er])] w0) : Calls prog 38 #[ptA gm 0, .slice al 1 cl] w0 fun e w' => PostX w0 Z X (ρ := M1) (fun r => .tuple #[]) (fun r => [(true, gm, 61, [.slice r.a (ks ++ [x]).length r.c, .slice aa js.length ca, ni64 er])]) (fun r => [(true, oW r.a (ks ++ [x]).length r.c 34 r.vs), (true, oW aa js.length ca 34 us), (true, .bysO r.G (r.vs ++ us ++ xs) ((ks ++ [x]) ++ js ++ ts)), (true, cL al 1 cl [.slice ax x.length cx])]) e w' := by
 have hk8 : ks.length ≤ 8000 := ok.1
 refine enterX (n := 24) (args := [ptA gm 0, .slice al 1 cl]) func38 rfl rfl (Nat.le_of_ble_eq_true rfl) hm fun ac hs => ?_
 have hv := hs.ownLen 0 rfl
 have hu := hs.ownLen 1 rfl
 refine wp_seq (wp_region_lit (mvv hs rfl rfl rfl fun ac hs => stp (op_blt hs none (v := .int .i64 1) rfl rfl rfl (blt_len underlying22) rfl fun ac hs => mvv hs rfl rfl rfl fun ac hs => wpList_nil (then_n (wp_block (wp_loop_m (fun μ ac w => (1 = μ ∧ St 24 ⟨w0, [], [(true, oW am ks.length cm 34 vs), (true, oW aa js.length ca 34 us), (true, .bysO G (vs ++ us ++ xs) (ks ++ js ++ ts)), (true, cL al 1 cl ([.slice ax x.length cx]))], Z, X⟩ [(0, true, ptA gm 0), (6, true, .slice al 1 cl), (7, true, .int .i64 1), (8, true, .int .i64 0)] [(true, gm, 61, [.slice am ks.length cm, .slice aa js.length ca, ni64 er])] ac w) ∨ (∃ (a1 : Option Addr) (c1 : Nat) (v1 : List Value) (G1 : Nat → Prop), 0 = μ ∧ St 24 ⟨w0, [], [(true, oW a1 ((ks ++ [x]).length) c1 34 v1), (true, oW aa js.length ca 34 us), (true, .bysO G1 (v1 ++ us ++ xs) ((ks ++ [x]) ++ js ++ ts)), (true, cL al 1 cl ([.slice ax x.length cx]))], Z, X⟩ [(0, true, ptA gm 0), (6, true, .slice al 1 cl), (7, true, .int .i64 1), (8, true, .int .i64 1)] [(true, gm, 61, [.slice a1 ((ks ++ [x]).length) c1, .slice aa js.length ca, ni64 er])] ac w)) ?_ ?_))))))
 ·exact ⟨_, .inl ⟨rfl, (hs.re (fs' := [(0, true, ptA gm 0), (6, true, .slice al 1 cl), (7, true, .int .i64 1), (8, true, .int .i64 0)]) ⟨rfl, rfl, rfl, rfl, trivial⟩)⟩⟩
 intro μ ac w hJ
 rcases hJ with hJ | hJ
 ·obtain ⟨rfl, hs⟩ := hJ
  refine wp_seq (wp_region_lit (bnn hs (.bool true) rfl rfl rfl rfl (fun _ => by kernel_rfl) fun ac hs => wpList_nil (then_n (wp_seq (wp_cond_true (hs.ev rfl) (wp_skip (then_n (wp_seq (wp_block (wp_seq (wp_region_lit (stp (op_idxC hs none 3 (j := 0) rfl rfl rfl rfl rfl underlying22 sizeOf34 (by decide) (off := 0) (by omega) rfl fun ac hs => stp (op_loadC hs none 3 (u := .slice ax x.length cx) rfl rfl rfl rfl isAgg34 sizeOf34 (by decide) rfl rfl fun ac hs => asg hs rfl rfl rfl fun ac hs => wpList_nil (then_n ?_)))))))))))))))
  replace hs := hs.nf w0 Z X [0, 6, 7, 8, 5] rfl rfl rfl rfl
  refine region_inv [([], [9, 10, 11]), ([], [2, 3, 4, 8, 9, 10, 11]), ([1], [3, 4, 8, 9, 10, 11]), ([1, 2], [4, 8, 9, 10, 11]), ([1, 2, 3], rgn 8 4), ([], rgn 6 6), ([5], rgn 7 5), ([5, 6], rgn 8 4), (rgn 1 7, [9, 10, 11]), (rgn 0 9, [10, 11]), (rgn 0 10, [11]), (rgn 0 11, [])] (fun L ac w => ∃ (ad1 : Option Addr) (cp2 : Nat) (ad4 : Option Addr) (ad5 : Option Addr) (cp6 : Nat), St 24 ⟨w0, [], [(true, cond (L 8) (oW ad5 ((ks ++ [x]).length) cp6 34 (vs ++ [.slice ad1 x.length cp2])) (oW am ks.length cm 34 vs)), (true, oW aa js.length ca 34 us), (true, .bysO G (vs ++ us ++ xs) (ks ++ js ++ ts)), (true, cL al 1 cl ([.slice ax x.length cx])), (L 6, oW ad1 x.length cp2 5 (bcs x)), (L 7, cond (L 7) (oW ad4 1 1 34 ([.slice ad1 x.length cp2])) (.bys [] []))], Z, X⟩ [(12, L 0, ptA gm 0), (13, L 1, ptA gm 0), (14, L 2, ptA gm 0), (15, L 3, ptA gm 0), (16, L 4, .slice am ks.length cm), (17, L 5, .slice ax x.length cx), (18, L 6, .slice ad1 x.length cp2), (19, L 7, .slice ad4 1 1), (20, L 8, .slice ad5 ((ks ++ [x]).length) cp6), (21, L 9, ptA gm 0), (22, L 10, ptA gm 0), (0, true, ptA gm 0), (6, true, .slice al 1 cl), (7, true, .int .i64 1), (8, true, .int .i64 0), (5, true, .slice ax x.length cx)] [(true, gm, 61, (cond (L 11) [.slice ad5 ((ks ++ [x]).length) cp6, .slice aa js.length ca, ni64 er] [.slice am ks.length cm, .slice aa js.length ca, ni64 er]))] ac w) (by kernel_rfl) (by kernel_rfl) ?_ ?_ ?_
  ·exact ⟨none, 0, none, none, 0, hs.drew.s4.s4.skip.skip.skip.padS.padS⟩
  ·refine ⟨?_, ?_, ?_, ?_, ?_, ?_, ?_, ?_, ?_, ?_, ?_, ?_, trivial⟩
   ·exact fun L ac w ⟨ad1, cp2, ad4, ad5, cp6, hs⟩ => pln (omv hs 0 rfl rfl rfl fun ac hs => ⟨ad1, cp2, ad4, ad5, cp6, hs⟩)
   ·exact fun L ac w ⟨ad1, cp2, ad4, ad5, cp6, hs⟩ => pln (omv hs 1 rfl rfl rfl fun ac hs => ⟨ad1, cp2, ad4, ad5, cp6, hs⟩)
   ·exact fun L ac w ⟨ad1, cp2, ad4, ad5, cp6, hs⟩ => pln (op_nilCheck hs (some 2) rfl rfl rfl rfl fun ac hs => ⟨ad1, cp2, ad4, ad5, cp6, hs⟩)
   ·exact fun L ac w ⟨ad1, cp2, ad4, ad5, cp6, hs⟩ => pln (op_fieldA hs (some 3) rfl rfl rfl underlying61 rfl sizeOf22 (by decide) rfl fun ac hs => ⟨ad1, cp2, ad4, ad5, cp6, hs⟩)
   ·exact fun L ac w ⟨ad1, cp2, ad4, ad5, cp6, hs⟩ => pln (oldd hs 4 0 (.slice am ks.length cm) isAgg22 sizeOf22 rfl rfl rfl rfl rfl fun ac hs => ⟨ad1, cp2, ad4, ad5, cp6, hs⟩)
   ·exact fun L ac w ⟨ad1, cp2, ad4, ad5, cp6, hs⟩ => pln (omv hs 5 rfl rfl rfl fun ac hs => ⟨ad1, cp2, ad4, ad5, cp6, hs⟩)
   ·exact fun L ac w ⟨ad1, cp2, ad4, ad5, cp6, hs⟩ => pln (op_callV (F := 63) (ρ := Option Addr × Nat) hs (some 6) (some 4) (v := fun r => .slice r.1 x.length r.2) (E := fun r => [oW r.1 x.length r.2 5 (bcs x)]) (j := 1) rfl rfl rfl rfl (call63 _) (fun hs => clone_o ax x.length cx x (Nat.le_trans hx (by decide)) _ _ (hs.itemZ (k := 2) rfl hxm)) (fun _ => rfl) (fun _ => rfl) rfl rfl fun ⟨ad1, cp2⟩ ac w hs => ⟨ad1, cp2, ad4, ad5, cp6, hs⟩)
   ·exact fun L ac w ⟨ad1, cp2, ad4, ad5, cp6, hs⟩ => pln (op_bsO hs (some 7) (some 5) (qs := [(0, .slice ad1 x.length cp2)]) (cs := [.slice ad1 x.length cp2]) rfl rfl rfl rfl underlying22 inf_slice_34 (by decide) (by decide) (fill_one _ _ rfl) rfl rfl rfl rfl fun ad4 ac w hs => ⟨ad1, cp2, ad4, ad5, cp6, hs⟩)
   ·exact fun L ac w ⟨ad1, cp2, ad4, ad5, cp6, hs⟩ => pln (op_appR hs (some 8) 0 5 (N' := (ks ++ [x]).length) (ys := vs ++ [Value.slice ad1 x.length cp2]) rfl rfl rfl rfl rfl rfl underlying22 inf_slice_34 rfl (by decide) rfl (by intro u hu; obtain rfl := List.mem_singleton.1 hu; rfl) (by decide) (show ks.length + 1 ≤ 1000000 by omega) (by simp) rfl rfl rfl fun ad5 cp6 ac w hs => ⟨ad1, cp2, ad4, ad5, cp6, hs⟩)
   ·exact fun L ac w ⟨ad1, cp2, ad4, ad5, cp6, hs⟩ => pln (op_nilCheck hs (some 9) rfl rfl rfl rfl fun ac hs => ⟨ad1, cp2, ad4, ad5, cp6, hs⟩)
   ·exact fun L ac w ⟨ad1, cp2, ad4, ad5, cp6, hs⟩ => pln (op_fieldA hs (some 10) rfl rfl rfl underlying61 rfl sizeOf22 (by decide) rfl fun ac hs => ⟨ad1, cp2, ad4, ad5, cp6, hs⟩)
   ·exact fun L ac w ⟨ad1, cp2, ad4, ad5, cp6, hs⟩ => pln (stoo hs 0 ([.slice ad5 ((ks ++ [x]).length) cp6]) sizeOf22 rfl rfl rfl rfl rfl rfl rfl rfl rfl rfl fun w hs => ⟨ad1, cp2, ad4, ad5, cp6, hs⟩)
  intro ac w ⟨ad1, cp2, ad4, ad5, cp6, hs⟩
  try dsimp only [cond_true] at hs
  refine blk_n (then_n (wp_region_lit (bnn hs (.int .i64 1) rfl rfl rfl rfl (fun _ => by kernel_rfl) fun ac hs => mvv hs rfl rfl rfl fun ac hs => wpList_nil (then_n ?_))))
  replace hs := hs.snocOwn (ls' := (ks ++ js ++ ts) ++ [x]) 2 4 rfl rfl rfl
  replace hs := hs.pushB 2 hv hu rfl
  replace hs := hs.selS [0, 1, 2, 3] rfl (by decide)
  exact ⟨_, .inr (⟨ad5, cp6, (vs ++ [.slice ad1 x.length cp2]), (GU G (.slice ad1 x.length cp2)), rfl, (hs.re (fs' := [(0, true, ptA gm 0), (6, true, .slice al 1 cl), (7, true, .int .i64 1), (8, true, .int .i64 1)]) ⟨rfl, rfl, rfl, rfl, trivial⟩)⟩), by omega⟩
 ·obtain ⟨a1, c1, v1, G1, rfl, hs⟩ := hJ
  refine wp_seq (wp_region_lit (bnn hs (.bool false) rfl rfl rfl rfl (fun _ => by kernel_rfl) fun ac hs => wpList_nil (then_n (wp_seq (wp_cond_false (hs.ev rfl) (wp_exit (then_e (then_e (blk_e ?_)))))))))
  exact bodyPost_end (res0 rfl) hs.defers ⟨⟨a1, c1, v1, G1⟩, rfl, ((hs.selS [0, 1, 2, 3] rfl (by decide)).selB [0] rfl (by decide)).mem⟩
theorem pushC_c (gm : Nat) (am : Option Addr) (cm : Nat) (vs : List Value) (aa : Option Addr) (ca : Nat) (us : List Value) (G : Nat → Prop) (xs : List Value) (ts : BL) (ks js : BL) (er : Nat) (al : Option Addr) (cl : Nat) (ax : Option Addr) (cx : Nat) (x : List UInt8) (hx : x.length ≤ 8000) (ok : OkN 8000 ks) (nx : Nat) (hnx : nx = x.length) (w0 : World) (Z X : Nat → Prop) (hm : Mem ⟨w0, [], [(true, oW am ks.length cm 34 vs), (true, oW aa js.length ca 34 us), (true, .bysO G (vs ++ us ++ xs) (ks ++ js ++ ts)), (true, cL al 1 cl ([.slice ax nx cx])), (true, cL ax nx cx (bcs x))], Z, X⟩ [(true, gm, 61, [.slice am ks.length cm, .slice aa js.length ca, ni64 er])] w0) : Calls prog 38 #[ptA gm 0, .slice al 1 cl] w0 fun e w' => PostX w0 Z X (ρ := M1) (fun r => .tuple #[]) (fun r => [(true, gm, 61, [.slice r.a (ks ++ [x]).length r.c, .slice aa js.length ca, ni64 er])]) (fun r => [(true, oW r.a (ks ++ [x]).length r.c 34 r.vs), (true, oW aa js.length ca 34 us), (true, .bysO r.G (r.vs ++ us ++ xs) ((ks ++ [x]) ++ js ++ ts)), (true, cL al 1 cl [.slice ax nx cx]), (true, cL ax nx cx (bcs x))]) e w' := by
 subst hnx
 have hk8 : ks.length ≤ 8000 := ok.1
 refine enterX (n := 24) (args := [ptA gm 0, .slice al 1 cl]) func38 rfl rfl (Nat.le_of_ble_eq_true rfl) hm fun ac hs => ?_
 have hv := hs.ownLen 0 rfl
 have hu := hs.ownLen 1 rfl
 refine wp_seq (wp_region_lit (mvv hs rfl rfl rfl fun ac hs => stp (op_blt hs none (v := .int .i64 1) rfl rfl rfl (blt_len underlying22) rfl fun ac hs => mvv hs rfl rfl rfl fun ac hs => wpList_nil (then_n (wp_block (wp_loop_m (fun μ ac w => (1 = μ ∧ St 24 ⟨w0, [], [(true, oW am ks.length cm 34 vs), (true, oW aa js.length ca 34 us), (true, .bysO G (vs ++ us ++ xs) (ks ++ js ++ ts)), (true, cL al 1 cl ([.slice ax x.length cx])), (true, cL ax x.length cx (bcs x))], Z, X⟩ [(0, true, ptA gm 0), (6, true, .slice al 1 cl), (7, true, .int .i64 1), (8, true, .int .i64 0)] [(true, gm, 61, [.slice am ks.length cm, .slice aa js.length ca, ni64 er])] ac w) ∨ (∃ (a1 : Option Addr) (c1 : Nat) (v1 : List Value) (G1 : Nat → Prop), 0 = μ ∧ St 24 ⟨w0, [], [(true, oW a1 ((ks ++ [x]).length) c1 34 v1), (true, oW aa js.length ca 34 us), (true, .bysO G1 (v1 ++ us ++ xs) ((ks ++ [x]) ++ js ++ ts)), (true, cL al 1 cl ([.slice ax x.length cx])), (true, cL ax x.length cx (bcs x))], Z, X⟩ [(0, true, ptA gm 0), (6, true, .slice al 1 cl), (7, true, .int .i64 1), (8, true, .int .i64 1)] [(true, gm, 61, [.slice a1 ((ks ++ [x]).length) c1, .slice aa js.length ca, ni64 er])] ac w)) ?_ ?_))))))
 ·exact ⟨_, .inl ⟨rfl, (hs.re (fs' := [(0, true, ptA gm 0), (6, true, .slice al 1 cl), (7, true, .int .i64 1), (8, true, .int .i64 0)]) ⟨rfl, rfl, rfl, rfl, trivial⟩)⟩⟩
 intro μ ac w hJ
 rcases hJ with hJ | hJ
 ·obtain ⟨rfl, hs⟩ := hJ
  refine wp_seq (wp_region_lit (bnn hs (.bool true) rfl rfl rfl rfl (fun _ => by kernel_rfl) fun ac hs => wpList_nil (then_n (wp_seq (wp_cond_true (hs.ev rfl) (wp_skip (then_n (wp_seq (wp_block (wp_seq (wp_region_lit (stp (op_idxC hs none 3 (j := 0) rfl rfl rfl rfl rfl underlying22 sizeOf34 (by decide) (off := 0) (by omega) rfl fun ac hs => stp (op_loadC hs none 3 (u := .slice ax x.length cx) rfl rfl rfl rfl isAgg34 sizeOf34 (by decide) rfl rfl fun ac hs => asg hs rfl rfl rfl fun ac hs => wpList_nil (then_n ?_)))))))))))))))
  replace hs := hs.nf w0 Z X [0, 6, 7, 8, 5] rfl rfl rfl rfl
  refine region_inv [([], [9, 10, 11]), ([], [2, 3, 4, 8, 9, 10, 11]), ([1], [3, 4, 8, 9, 10, 11]), ([1, 2], [4, 8, 9, 10, 11]), ([1, 2, 3], rgn 8 4), ([], rgn 6 6), ([5], rgn 7 5), ([5, 6], rgn 8 4), (rgn 1 7, [9, 10, 11]), (rgn 0 9, [10, 11]), (rgn 0 10, [11]), (rgn 0 11, [])] (fun L ac w => ∃ (ad1 : Option Addr) (cp2 : Nat) (ad4 : Option Addr) (ad5 : Option Addr) (cp6 : Nat), St 24 ⟨w0, [], [(true, cond (L 8) (oW ad5 ((ks ++ [x]).length) cp6 34 (vs ++ [.slice ad1 x.length cp2])) (oW am ks.length cm 34 vs)), (true, oW aa js.length ca 34 us), (true, .bysO G (vs ++ us ++ xs) (ks ++ js ++ ts)), (true, cL al 1 cl ([.slice ax x.length cx])), (true, cL ax x.length cx (bcs x)), (L 6, oW ad1 x.length cp2 5 (bcs x)), (L 7, cond (L 7) (oW ad4 1 1 34 ([.slice ad1 x.length cp2])) (.bys [] []))], Z, X⟩ [(12, L 0, ptA gm 0), (13, L 1, ptA gm 0), (14, L 2, ptA gm 0), (15, L 3, ptA gm 0), (16, L 4, .slice am ks.length cm), (17, L 5, .slice ax x.length cx), (18, L 6, .slice ad1 x.length cp2), (19, L 7, .slice ad4 1 1), (20, L 8, .slice ad5 ((ks ++ [x]).length) cp6), (21, L 9, ptA gm 0), (22, L 10, ptA gm 0), (0, true, ptA gm 0), (6, true, .slice al 1 cl), (7, true, .int .i64 1), (8, true, .int .i64 0), (5, true, .slice ax x.length cx)] [(true, gm, 61, (cond (L 11) [.slice ad5 ((ks ++ [x]).length) cp6, .slice aa js.length ca, ni64 er] [.slice am ks.length cm, .slice aa js.length ca, ni64 er]))] ac w) (by kernel_rfl) (by kernel_rfl) ?_ ?_ ?_
  ·exact ⟨none, 0, none, none, 0, hs.drew.s4.s4.skip.skip.skip.padS.padS⟩
  ·refine ⟨?_, ?_, ?_, ?_, ?_, ?_, ?_, ?_, ?_, ?_, ?_, ?_, trivial⟩
   ·exact fun L ac w ⟨ad1, cp2, ad4, ad5, cp6, hs⟩ => pln (omv hs 0 rfl rfl rfl fun ac hs => ⟨ad1, cp2, ad4, ad5, cp6, hs⟩)
   ·exact fun L ac w ⟨ad1, cp2, ad4, ad5, cp6, hs⟩ => pln (omv hs 1 rfl rfl rfl fun ac hs => ⟨ad1, cp2, ad4, ad5, cp6, hs⟩)
   ·exact fun L ac w ⟨ad1, cp2, ad4, ad5, cp6, hs⟩ => pln (op_nilCheck hs (some 2) rfl rfl rfl rfl fun ac hs => ⟨ad1, cp2, ad4, ad5, cp6, hs⟩)
   ·exact fun L ac w ⟨ad1, cp2, ad4, ad5, cp6, hs⟩ => pln (op_fieldA hs (some 3) rfl rfl rfl underlying61 rfl sizeOf22 (by decide) rfl fun ac hs => ⟨ad1, cp2, ad4, ad5, cp6, hs⟩)
   ·exact fun L ac w ⟨ad1, cp2, ad4, ad5, cp6, hs⟩ => pln (oldd hs 4 0 (.slice am ks.length cm) isAgg22 sizeOf22 rfl rfl rfl rfl rfl fun ac hs => ⟨ad1, cp2, ad4, ad5, cp6, hs⟩)
   ·exact fun L ac w ⟨ad1, cp2, ad4, ad5, cp6, hs⟩ => pln (omv hs 5 rfl rfl rfl fun ac hs => ⟨ad1, cp2, ad4, ad5, cp6, hs⟩)
   ·exact fun L ac w ⟨ad1, cp2, ad4, ad5, cp6, hs⟩ => pln (op_callV (F := 63) (ρ := Option Addr × Nat) hs (some 6) (some 5) (v := fun r => .slice r.1 x.length r.2) (E := fun r => [oW r.1 x.length r.2 5 (bcs x)]) (j := 1) rfl rfl rfl rfl (call63 _) (fun hs => clone_o ax x.length cx x (Nat.le_trans hx (by decide)) _ _ (hs.celT (k := 4) rfl)) (fun _ => rfl) (fun _ => rfl) rfl rfl fun ⟨ad1, cp2⟩ ac w hs => ⟨ad1, cp2, ad4, ad5, cp6, hs⟩)
   ·exact fun L ac w ⟨ad1, cp2, ad4, ad5, cp6, hs⟩ => pln (op_bsO hs (some 7) (some 6) (qs := [(0, .slice ad1 x.length cp2)]) (cs := [.slice ad1 x.length cp2]) rfl rfl rfl rfl underlying22 inf_slice_34 (by decide) (by decide) (fill_one _ _ rfl) rfl rfl rfl rfl fun ad4 ac w hs => ⟨ad1, cp2, ad4, ad5, cp6, hs⟩)
   ·exact fun L ac w ⟨ad1, cp2, ad4, ad5, cp6, hs⟩ => pln (op_appR hs (some 8) 0 6 (N' := (ks ++ [x]).length) (ys := vs ++ [Value.slice ad1 x.length cp2]) rfl rfl rfl rfl rfl rfl underlying22 inf_slice_34 rfl (by decide) rfl (by intro u hu; obtain rfl := List.mem_singleton.1 hu; rfl) (by decide) (show ks.length + 1 ≤ 1000000 by omega) (by simp) rfl rfl rfl fun ad5 cp6 ac w hs => ⟨ad1, cp2, ad4, ad5, cp6, hs⟩)
   ·exact fun L ac w ⟨ad1, cp2, ad4, ad5, cp6, hs⟩ => pln (op_nilCheck hs (some 9) rfl rfl rfl rfl fun ac hs => ⟨ad1, cp2, ad4, ad5, cp6, hs⟩)
   ·exact fun L ac w ⟨ad1, cp2, ad4, ad5, cp6, hs⟩ => pln (op_fieldA hs (some 10) rfl rfl rfl underlying61 rfl sizeOf22 (by decide) rfl fun ac hs => ⟨ad1, cp2, ad4, ad5, cp6, hs⟩)
   ·exact fun L ac w ⟨ad1, cp2, ad4, ad5, cp6, hs⟩ => pln (stoo hs 0 ([.slice ad5 ((ks ++ [x]).length) cp6]) sizeOf22 rfl rfl rfl rfl rfl rfl rfl rfl rfl rfl fun w hs => ⟨ad1, cp2, ad4, ad5, cp6, hs⟩)
  intro ac w ⟨ad1, cp2, ad4, ad5, cp6, hs⟩
  try dsimp only [cond_true] at hs
  refine blk_n (then_n (wp_region_lit (bnn hs (.int .i64 1) rfl rfl rfl rfl (fun _ => by kernel_rfl) fun ac hs => mvv hs rfl rfl rfl fun ac hs => wpList_nil (then_n ?_))))
  replace hs := hs.snocOwn (ls' := (ks ++ js ++ ts) ++ [x]) 2 5 rfl rfl rfl
  replace hs := hs.pushB 2 hv hu rfl
  replace hs := hs.selS [0, 1, 2, 3, 4] rfl (by decide)
  exact ⟨_, .inr (⟨ad5, cp6, (vs ++ [.slice ad1 x.length cp2]), (GU G (.slice ad1 x.length cp2)), rfl, (hs.re (fs' := [(0, true, ptA gm 0), (6, true, .slice al 1 cl), (7, true, .int .i64 1), (8, true, .int .i64 1)]) ⟨rfl, rfl, rfl, rfl, trivial⟩)⟩), by omega⟩
 ·obtain ⟨a1, c1, v1, G1, rfl, hs⟩ := hJ
  refine wp_seq (wp_region_lit (bnn hs (.bool false) rfl rfl rfl rfl (fun _ => by kernel_rfl) fun ac hs => wpList_nil (then_n (wp_seq (wp_cond_false (hs.ev rfl) (wp_exit (then_e (then_e (blk_e ?_)))))))))
  exact bodyPost_end (res0 rfl) hs.defers ⟨⟨a1, c1, v1, G1⟩, rfl, ((hs.selS [0, 1, 2, 3, 4] rfl (by decide)).selB [0] rfl (by decide)).mem⟩
theorem pushO_c (gm : Nat) (am : Option Addr) (cm : Nat) (vs : List Value) (aa : Option Addr) (ca : Nat) (us : List Value) (G : Nat → Prop) (xs : List Value) (ts : BL) (ks js : BL) (er : Nat) (al : Option Addr) (cl : Nat) (ax : Option Addr) (cx : Nat) (x : List UInt8) (hx : x.length ≤ 8000) (ok : OkN 8000 ks) (nx : Nat) (hnx : nx = x.length) (w0 : World) (Z X : Nat → Prop) (hm : Mem ⟨w0, [], [(true, oW am ks.length cm 34 vs), (true, oW aa js.length ca 34 us), (true, .bysO G (vs ++ us ++ xs) (ks ++ js ++ ts)), (true, oW al 1 cl 34 ([.slice ax nx cx])), (true, oW ax nx cx 5 (bcs x))], Z, X⟩ [(true, gm, 61, [.slice am ks.length cm, .slice aa js.length ca, ni64 er])] w0) : Calls prog 38 #[ptA gm 0, .slice al 1 cl] w0 fun e w' => PostX w0 Z X (ρ := M1) (fun r => .tuple #[]) (fun r => [(true, gm, 61, [.slice r.a (ks ++ [x]).length r.c, .slice aa js.length ca, ni64 er])]) (fun r => [(true, oW r.a (ks ++ [x]).length r.c 34 r.vs), (true, oW aa js.length ca 34 us), (true, .bysO r.G (r.vs ++ us ++ xs) ((ks ++ [x]) ++ js ++ ts)), (true, cL al 1 cl [.slice ax nx cx]), (true, cL ax nx cx (bcs x))]) e w' := by
 subst hnx
 have hk8 : ks.length ≤ 8000 := ok.1
 refine enterX (n := 24) (args := [ptA gm 0, .slice al 1 cl]) func38 rfl rfl (Nat.le_of_ble_eq_true rfl) hm fun ac hs => ?_
 replace hs := hs.freeze 3 rfl
 replace hs := hs.freeze 4 rfl
 have hv := hs.ownLen 0 rfl
 have hu := hs.ownLen 1 rfl
 refine wp_seq (wp_region_lit (mvv hs rfl rfl rfl fun ac hs => stp (op_blt hs none (v := .int .i64 1) rfl rfl rfl (blt_len underlying22) rfl fun ac hs => mvv hs rfl rfl rfl fun ac hs => wpList_nil (then_n (wp_block (wp_loop_m (fun μ ac w => (1 = μ ∧ St 24 ⟨w0, [], [(true, oW am ks.length cm 34 vs), (true, oW aa js.length ca 34 us), (true, .bysO G (vs ++ us ++ xs) (ks ++ js ++ ts)), (true, cL al 1 cl ([.slice ax x.length cx])), (true, cL ax x.length cx (bcs x))], Z, X⟩ [(0, true, ptA gm 0), (6, true, .slice al 1 cl), (7, true, .int .i64 1), (8, true, .int .i64 0)] [(true, gm, 61, [.slice am ks.length cm, .slice aa js.length ca, ni64 er])] ac w) ∨ (∃ (a1 : Option Addr) (c1 : Nat) (v1 : List Value) (G1 : Nat → Prop), 0 = μ ∧ St 24 ⟨w0, [], [(true, oW a1 ((ks ++ [x]).length) c1 34 v1), (true, oW aa js.length ca 34 us), (true, .bysO G1 (v1 ++ us ++ xs) ((ks ++ [x]) ++ js ++ ts)), (true, cL al 1 cl ([.slice ax x.length cx])), (true, cL ax x.length cx (bcs x))], Z, X⟩ [(0, true, ptA gm 0), (6, true, .slice al 1 cl), (7, true, .int .i64 1), (8, true, .int .i64 1)] [(true, gm, 61, [.slice a1 ((ks ++ [x]).length) c1, .slice aa js.length ca, ni64 er])] ac w)) ?_ ?_))))))
 ·exact ⟨_, .inl ⟨rfl, (hs.re (fs' := [(0, true, ptA gm 0), (6, true, .slice al 1 cl), (7, true, .int .i64 1), (8, true, .int .i64 0)]) ⟨rfl, rfl, rfl, rfl, trivial⟩)⟩⟩
 intro μ ac w hJ
 rcases hJ with hJ | hJ
 ·obtain ⟨rfl, hs⟩ := hJ
  refine wp_seq (wp_region_lit (bnn hs (.bool true) rfl rfl rfl rfl (fun _ => by kernel_rfl) fun ac hs => wpList_nil (then_n (wp_seq (wp_cond_true (hs.ev rfl) (wp_skip (then_n (wp_seq (wp_block (wp_seq (wp_region_lit (stp (op_idxC hs none 3 (j := 0) rfl rfl rfl rfl rfl underlying22 sizeOf34 (by decide) (off := 0) (by omega) rfl fun ac hs => stp (op_loadC hs none 3 (u := .slice ax x.length cx) rfl rfl rfl rfl isAgg34 sizeOf34 (by decide) rfl rfl fun ac hs => asg hs rfl rfl rfl fun ac hs => wpList_nil (then_n ?_)))))))))))))))
  replace hs := hs.nf w0 Z X [0, 6, 7, 8, 5] rfl rfl rfl rfl
  refine region_inv [([], [9, 10, 11]), ([], [2, 3, 4, 8, 9, 10, 11]), ([1], [3, 4, 8, 9, 10, 11]), ([1, 2], [4, 8, 9, 10, 11]), ([1, 2, 3], rgn 8 4), ([], rgn 6 6), ([5], rgn 7 5), ([5, 6], rgn 8 4), (rgn 1 7, [9, 10, 11]), (rgn 0 9, [10, 11]), (rgn 0 10, [11]), (rgn 0 11, [])] (fun L ac w => ∃ (ad1 : Option Addr) (cp2 : Nat) (ad4 : Option Addr) (ad5 : Option Addr) (cp6 : Nat), St 24 ⟨w0, [], [(true, cond (L 8) (oW ad5 ((ks ++ [x]).length) cp6 34 (vs ++ [.slice ad1 x.length cp2])) (oW am ks.length cm 34 vs)), (true, oW aa js.length ca 34 us), (true, .bysO G (vs ++ us ++ xs) (ks ++ js ++ ts)), (true, cL al 1 cl ([.slice ax x.length cx])), (true, cL ax x.length cx (bcs x)), (L 6, oW ad1 x.length cp2 5 (bcs x)), (L 7, cond (L 7) (oW ad4 1 1 34 ([.slice ad1 x.length cp2])) (.bys [] []))], Z, X⟩ [(12, L 0, ptA gm 0), (13, L 1, ptA gm 0), (14, L 2, ptA gm 0), (15, L 3, ptA gm 0), (16, L 4, .slice am ks.length cm), (17, L 5, .slice ax x.length cx), (18, L 6, .slice ad1 x.length cp2), (19, L 7, .slice ad4 1 1), (20, L 8, .slice ad5 ((ks ++ [x]).length) cp6), (21, L 9, ptA gm 0), (22, L 10, ptA gm 0), (0, true, ptA gm 0), (6, true, .slice al 1 cl), (7, true, .int .i64 1), (8, true, .int .i64 0), (5, true, .slice ax x.length cx)] [(true, gm, 61, (cond (L 11) [.slice ad5 ((ks ++ [x]).length) cp6, .slice aa js.length ca, ni64 er] [.slice am ks.length cm, .slice aa js.length ca, ni64 er]))] ac w) (by kernel_rfl) (by kernel_rfl) ?_ ?_ ?_
  ·exact ⟨none, 0, none, none, 0, hs.drew.s4.s4.skip.skip.skip.padS.padS⟩
  ·refine ⟨?_, ?_, ?_, ?_, ?_, ?_, ?_, ?_, ?_, ?_, ?_, ?_, trivial⟩
   ·exact fun L ac w ⟨ad1, cp2, ad4, ad5, cp6, hs⟩ => pln (omv hs 0 rfl rfl rfl fun ac hs => ⟨ad1, cp2, ad4, ad5, cp6, hs⟩)
   ·exact fun L ac w ⟨ad1, cp2, ad4, ad5, cp6, hs⟩ => pln (omv hs 1 rfl rfl rfl fun ac hs => ⟨ad1, cp2, ad4, ad5, cp6, hs⟩)
   ·exact fun L ac w ⟨ad1, cp2, ad4, ad5, cp6, hs⟩ => pln (op_nilCheck hs (some 2) rfl rfl rfl rfl fun ac hs => ⟨ad1, cp2, ad4, ad5, cp6, hs⟩)
   ·exact fun L ac w ⟨ad1, cp2, ad4, ad5, cp6, hs⟩ => pln (op_fieldA hs (some 3) rfl rfl rfl underlying61 rfl sizeOf22 (by decide) rfl fun ac hs => ⟨ad1, cp2, ad4, ad5, cp6, hs⟩)
   ·exact fun L ac w ⟨ad1, cp2, ad4, ad5, cp6, hs⟩ => pln (oldd hs 4 0 (.slice am ks.length cm) isAgg22 sizeOf22 rfl rfl rfl rfl rfl fun ac hs => ⟨ad1, cp2, ad4, ad5, cp6, hs⟩)
   ·exact fun L ac w ⟨ad1, cp2, ad4, ad5, cp6, hs⟩ => pln (omv hs 5 rfl rfl rfl fun ac hs => ⟨ad1, cp2, ad4, ad5, cp6, hs⟩)
   ·exact fun L ac w ⟨ad1, cp2, ad4, ad5, cp6, hs⟩ => pln (op_callV (F := 63) (ρ := Option Addr × Nat) hs (some 6) (some 5) (v := fun r => .slice r.1 x.length r.2) (E := fun r => [oW r.1 x.length r.2 5 (bcs x)]) (j := 1) rfl rfl rfl rfl (call63 _) (fun hs => clone_o ax x.length cx x (Nat.le_trans hx (by decide)) _ _ (hs.celT (k := 4) rfl)) (fun _ => rfl) (fun _ => rfl) rfl rfl fun ⟨ad1, cp2⟩ ac w hs => ⟨ad1, cp2, ad4, ad5, cp6, hs⟩)
   ·exact fun L ac w ⟨ad1, cp2, ad4, ad5, cp6, hs⟩ => pln (op_bsO hs (some 7) (some 6) (qs := [(0, .slice ad1 x.length cp2)]) (cs := [.slice ad1 x.length cp2]) rfl rfl rfl rfl underlying22 inf_slice_34 (by decide) (by decide) (fill_one _ _ rfl) rfl rfl rfl rfl fun ad4 ac w hs => ⟨ad1, cp2, ad4, ad5, cp6, hs⟩)
   ·exact fun L ac w ⟨ad1, cp2, ad4, ad5, cp6, hs⟩ => pln (op_appR hs (some 8) 0 6 (N' := (ks ++ [x]).length) (ys := vs ++ [Value.slice ad1 x.length cp2]) rfl rfl rfl rfl rfl rfl underlying22 inf_slice_34 rfl (by decide) rfl (by intro u hu; obtain rfl := List.mem_singleton.1 hu; rfl) (by decide) (show ks.length + 1 ≤ 1000000 by omega) (by simp) rfl rfl rfl fun ad5 cp6 ac w hs => ⟨ad1, cp2, ad4, ad5, cp6, hs⟩)
   ·exact fun L ac w ⟨ad1, cp2, ad4, ad5, cp6, hs⟩ => pln (op_nilCheck hs (some 9) rfl rfl rfl rfl fun ac hs => ⟨ad1, cp2, ad4, ad5, cp6, hs⟩)
   ·exact fun L ac w ⟨ad1, cp2, ad4, ad5, cp6, hs⟩ => pln (op_fieldA hs (some 10) rfl rfl rfl underlying61 rfl sizeOf22 (by decide) rfl fun ac hs => ⟨ad1, cp2, ad4, ad5, cp6, hs⟩)
   ·exact fun L ac w ⟨ad1, cp2, ad4, ad5, cp6, hs⟩ => pln (stoo hs 0 ([.slice ad5 ((ks ++ [x]).length) cp6]) sizeOf22 rfl rfl rfl rfl rfl rfl rfl rfl rfl rfl fun w hs => ⟨ad1, cp2, ad4, ad5, cp6, hs⟩)
  intro ac w ⟨ad1, cp2, ad4, ad5, cp6, hs⟩
  try dsimp only [cond_true] at hs
  refine blk_n (then_n (wp_region_lit (bnn hs (.int .i64 1) rfl rfl rfl rfl (fun _ => by kernel_rfl) fun ac hs => mvv hs rfl rfl rfl fun ac hs => wpList_nil (then_n ?_))))
  replace hs := hs.snocOwn (ls' := (ks ++ js ++ ts) ++ [x]) 2 5 rfl rfl rfl
  replace hs := hs.pushB 2 hv hu rfl
  replace hs := hs.selS [0, 1, 2, 3, 4] rfl (by decide)
  exact ⟨_, .inr (⟨ad5, cp6, (vs ++ [.slice ad1 x.length cp2]), (GU G (.slice ad1 x.length cp2)), rfl, (hs.re (fs' := [(0, true, ptA gm 0), (6, true, .slice al 1 cl), (7, true, .int .i64 1), (8, true, .int .i64 1)]) ⟨rfl, rfl, rfl, rfl, trivial⟩)⟩), by omega⟩
 ·obtain ⟨a1, c1, v1, G1, rfl, hs⟩ := hJ
  refine wp_seq (wp_region_lit (bnn hs (.bool false) rfl rfl rfl rfl (fun _ => by kernel_rfl) fun ac hs => wpList_nil (then_n (wp_seq (wp_cond_false (hs.ev rfl) (wp_exit (then_e (then_e (blk_e ?_)))))))))
  exact bodyPost_end (res0 rfl) hs.defers ⟨⟨a1, c1, v1, G1⟩, rfl, ((hs.selS [0, 1, 2, 3, 4] rfl (by decide)).selB [0] rfl (by decide)).mem⟩
theorem pop_c (gm : Nat) (am : Option Addr) (cm : Nat) (vs : List Value) (aa : Option Addr) (ca : Nat) (us : List Value) (G : Nat → Prop) (xs : List Value) (ts : BL) (ks js : BL) (er : Nat) (x : List UInt8) (k1 : BL) (e1 : Nat) (ok : OkN 8000 ks) (hp : popL ks er = (x, k1, e1)) (w0 : World) (Z X : Nat → Prop) (hm : Mem ⟨w0, [], [(true, oW am ks.length cm 34 vs), (true, oW aa js.length ca 34 us), (true, .bysO G (vs ++ us ++ xs) (ks ++ js ++ ts))], Z, X⟩ [(true, gm, 61, [.slice am ks.length cm, .slice aa js.length ca, ni64 er])] w0) : Calls prog 39 #[ptA gm 0] w0 fun e w' => PostX w0 Z X (ρ := M1x) (fun r => .slice r.x x.length r.y) (fun r => [(true, gm, 61, [.slice r.a k1.length r.c, .slice aa js.length ca, ni64 e1])]) (fun r => [(true, oW r.a k1.length r.c 34 r.vs), (true, oW aa js.length ca 34 us), (true, .bysO G (r.vs ++ us ++ (xs ++ [.slice r.x x.length r.y])) (k1 ++ js ++ (ts ++ [x])))]) e w' := by
 have hk8 : ks.length ≤ 8000 := ok.1
 refine enterX (n := 24) (args := [ptA gm 0]) func39 rfl rfl (Nat.le_of_ble_eq_true rfl) hm fun ac hs => ?_
 have hv := hs.ownLen 0 rfl
 have hu := hs.ownLen 1 rfl
 refine wp_seq (wp_region_lit (asg hs rfl rfl rfl fun ac hs => wpList_nil (then_n (wp_seq (wp_seq (wp_region_lit (mvv hs rfl rfl rfl fun ac hs => ?_)))))))
 obtain ⟨e1, he1⟩ := ex1 (needE ks.length 1 er)
 refine stp (op_callX (F := 48) (ρ := Unit) hs none none [0] [] (v := fun r => .bool (decide (e1 = 0))) (S1 := []) (bs1 := [(true, gm, 61, [.slice am ks.length cm, .slice aa js.length ca, ni64 er])]) (E := fun r => []) (E1 := fun r => []) (E2 := fun r => []) (bfA := fun r => [(true, gm, 61, [.slice am ks.length cm, .slice aa js.length ca, ni64 e1])]) (bf := fun r => [(true, gm, 61, [.slice am ks.length cm, .slice aa js.length ca, ni64 e1])]) (bf2 := fun r => []) rfl rfl rfl rfl rfl (call48 _) rfl rfl (by decide) (by decide) (fun Z X hm => needs_c gm am ks.length cm (.slice aa js.length ca) er 1 e1 (decide (e1 = 0)) he1 rfl _ _ _ hm) (fun _ => rfl) (fun _ => rfl) (fun _ => rfl) (fun _ => rfl) (fun _ => rfl) rfl fun _ ac w hs => stp (op_un hs none (v := .bool (!(decide (e1 = 0)))) rfl rfl rfl (fun _ => rfl) rfl fun ac hs => wpList_nil (then_n (wcs hs rfl ?_ ?_))))
 ·intro hc
  refine wp_seq (wp_region_lit (asg hs rfl rfl rfl fun ac hs => wpList_nil (then_n (wp_ret (then_r ?_)))))
  have hne : ¬ needE ks.length 1 er = 0 := by rw [he1]; simpa using hc
  obtain ⟨rfl, rfl, rfl⟩ := inj3 ((if_neg hne : popL ks er = _).symm.trans hp)
  rw [← he1] at hs
  replace hs := hs.nilB 2 rfl
  exact bodyPost_ret (res1 rfl (rv_t hs rfl)) hs.defers ⟨⟨am, cm, vs, none, 0⟩, rfl, ((hs.selS [0, 1, 2] rfl (by decide)).selB [0] rfl (by decide)).mem⟩
 intro hc
 have hnl := need_len (he1.trans (show e1 = 0 by simpa using hc))
 have hl0 := hnl.1
 refine wp_skip (then_n (wp_seq (wp_region_lit (mvv hs rfl rfl rfl fun ac hs => ?_))))
 obtain ⟨y2, hy2⟩ : ∃ z0, ks[ks.length - 1 - 0]? = some z0 := ⟨_, List.getElem?_eq_getElem (show ks.length - 1 - 0 < ks.length by omega)⟩
 obtain ⟨ad3, cp4, ky2⟩ := hs.poolAt 2 rfl (hs.ownLen 0 rfl) hy2
 have my2 := zip_get ky2 hy2
 have ly2 : y2.length ≤ 8000 := ok.2 _ (List.mem_of_getElem? hy2)
 have dy2 : ks.getD (ks.length - 1 - 0) [] = y2 := getD_of hy2
 refine stp (op_callX (F := 49) (ρ := Unit) hs none none [0] [0] (v := fun r => .slice ad3 y2.length cp4) (S1 := [(true, oW am ks.length cm 34 vs)]) (bs1 := [(true, gm, 61, [.slice am ks.length cm, .slice aa js.length ca, ni64 e1])]) (E := fun r => [(true, oW am ks.length cm 34 vs)]) (E1 := fun r => [(true, oW am ks.length cm 34 vs)]) (E2 := fun r => []) (bfA := fun r => [(true, gm, 61, [.slice am ks.length cm, .slice aa js.length ca, ni64 e1])]) (bf := fun r => [(true, gm, 61, [.slice am ks.length cm, .slice aa js.length ca, ni64 e1])]) (bf2 := fun r => []) rfl rfl rfl rfl rfl (call49 _) rfl rfl (by decide) (by decide) (fun Z X hm => top_c gm am cm vs ks (.slice aa js.length ca) e1 0 (.slice ad3 y2.length cp4) (show 0 < ks.length by omega) ky2 ok _ _ _ hm) (fun _ => rfl) (fun _ => rfl) (fun _ => rfl) (fun _ => rfl) (fun _ => rfl) rfl fun _ ac w hs => asg hs rfl rfl rfl fun ac hs => wpList_nil (then_n (wp_seq ?_)))
 replace hs := hs.nf w0 Z X [0, 2, 3] rfl rfl rfl rfl
 refine region_inv [([], [12, 13, 14]), ([], [2, 3, 4, 11, 12, 13, 14]), ([1], [3, 4, 11, 12, 13, 14]), ([1, 2], [4, 11, 12, 13, 14]), ([1, 2, 3], rgn 11 4), ([], rgn 6 9), ([5], rgn 7 8), ([5, 6], rgn 8 7), ([5, 6, 7], rgn 9 6), (rgn 5 4, rgn 10 5), (rgn 5 5, rgn 11 4), (rgn 1 10, [12, 13, 14]), (rgn 0 12, [13, 14]), (rgn 0 13, [14]), (rgn 0 14, [])] (fun L ac w => St 24 ⟨w0, [], [(true, oW am ks.length cm 34 vs), (true, oW aa js.length ca 34 us), (true, .bysO G (vs ++ us ++ xs) (ks ++ js ++ ts))], Z, X⟩ [(9, L 0, ptA gm 0), (10, L 1, ptA gm 0), (11, L 2, ptA gm 0), (12, L 3, ptA gm 0), (13, L 4, .slice am ks.length cm), (14, L 5, ptA gm 0), (15, L 6, ptA gm 0), (16, L 7, ptA gm 0), (17, L 8, .slice am ks.length cm), (18, L 9, ni64 (ks.length)), (19, L 10, ni64 (ks.length - 1)), (20, L 11, .slice am (ks.length - 1) cm), (21, L 12, ptA gm 0), (22, L 13, ptA gm 0), (0, true, ptA gm 0), (2, true, .slice none 0 0), (3, true, .slice ad3 y2.length cp4)] [(true, gm, 61, (cond (L 14) [.slice am (ks.length - 1) cm, .slice aa js.length ca, ni64 e1] [.slice am ks.length cm, .slice aa js.length ca, ni64 e1]))] ac w) (by kernel_rfl) (by kernel_rfl) ?_ ?_ ?_
 ·exact hs.drew.s4.s4.s4.skip.skip
 ·refine ⟨?_, ?_, ?_, ?_, ?_, ?_, ?_, ?_, ?_, ?_, ?_, ?_, ?_, ?_, ?_, trivial⟩
  ·exact fun L ac w hs => pln (omv hs 0 rfl rfl rfl fun ac hs => hs)
  ·exact fun L ac w hs => pln (omv hs 1 rfl rfl rfl fun ac hs => hs)
  ·exact fun L ac w hs => pln (op_nilCheck hs (some 2) rfl rfl rfl rfl fun ac hs => hs)
  ·exact fun L ac w hs => pln (op_fieldA hs (some 3) rfl rfl rfl underlying61 rfl sizeOf22 (by decide) rfl fun ac hs => hs)
  ·exact fun L ac w hs => pln (oldd hs 4 0 (.slice am ks.length cm) isAgg22 sizeOf22 rfl rfl rfl rfl rfl fun ac hs => hs)
  ·exact fun L ac w hs => pln (omv hs 5 rfl rfl rfl fun ac hs => hs)
  ·exact fun L ac w hs => pln (op_nilCheck hs (some 6) rfl rfl rfl rfl fun ac hs => hs)
  ·exact fun L ac w hs => pln (op_fieldA hs (some 7) rfl rfl rfl underlying61 rfl sizeOf22 (by decide) rfl fun ac hs => hs)
  ·exact fun L ac w hs => pln (oldd hs 8 0 (.slice am ks.length cm) isAgg22 sizeOf22 rfl rfl rfl rfl rfl fun ac hs => hs)
  ·exact fun L ac w hs => pln (op_blt hs (some 9) (v := ni64 (ks.length)) rfl rfl rfl (blt_len underlying22) rfl fun ac hs => hs)
  ·exact fun L ac w hs => pln (obn hs 10 (ni64 (ks.length - 1)) rfl rfl rfl rfl (bin_subN (y := 1) (by omega) (show ks.length - 1 < 9223372036854775808 by omega)) fun ac hs => hs)
  ·exact fun L ac w hs => pln (op_sliceV hs (some 11) 0 0 (ks.length - 1) (v' := .slice am (ks.length - 1) cm) rfl rfl rfl rfl (.inl ⟨rfl, rfl⟩) (.inr ⟨_, _, rfl, rfl⟩) underlying22 sizeOf34 (show 0 ≤ ks.length - 1 by omega) (show ks.length - 1 ≤ ks.length by omega) vsl_hi rfl fun ac hs => hs)
  ·exact fun L ac w hs => pln (op_nilCheck hs (some 12) rfl rfl rfl rfl fun ac hs => hs)
  ·exact fun L ac w hs => pln (op_fieldA hs (some 13) rfl rfl rfl underlying61 rfl sizeOf22 (by decide) rfl fun ac hs => hs)
  ·exact fun L ac w hs => pln (stoo hs 0 ([.slice am (ks.length - 1) cm]) sizeOf22 rfl rfl rfl rfl rfl rfl rfl rfl rfl rfl fun w hs => hs)
 intro ac w hs
 try dsimp only [cond_true] at hs
 refine then_n (wp_seq (wp_region_lit (mvv hs rfl rfl rfl fun ac hs => asg hs rfl rfl rfl fun ac hs => wpList_nil (then_n (wp_ret ?_)))))
 obtain ⟨rfl, rfl, rfl⟩ := inj3 ((if_pos (he1.trans (by simpa using hc)) : popL ks er = _).symm.trans hp)
 obtain rfl : e1 = 0 := by simpa using hc
 have hly : lastB ks = y2 := dy2
 replace hs := hs.truncO 0 (ks.length - 1) rfl (by omega) rfl
 replace hs := hs.popB (i := ks.length - 1) (j := ks.length - 1) 2 hv hu ky2 hy2 rfl
 obtain ⟨k1, hk1, hl1⟩ : ∃ z, ks.take (ks.length - 1) = z ∧ ks.length - 1 = z.length := ⟨_, rfl, by simp⟩
 rw [hk1] at hs
 rw [hl1] at hs
 rw [hly, hk1]
 exact bodyPost_ret (res1 rfl (rv_t hs rfl)) hs.defers ⟨⟨am, cm, vs.take k1.length, ad3, cp4⟩, rfl, ((hs.selS [0, 1, 2] rfl (by decide)).selB [0] rfl (by decide)).mem⟩
end Go.Proofs.Ytikkhkjndbicgaa
