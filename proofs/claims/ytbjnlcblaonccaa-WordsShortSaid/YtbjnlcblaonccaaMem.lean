/- Calls that write blocks of the caller's; calls that only look; lists of byte strings of one's own. -/
import Derived.Test.YtbjnlcblaonccaaApp
namespace Go.Proofs.Ytbjnlcblaonccaa
open Go.RowKit
/-- what a state says of memory -/
structure Mem (w0 : Bs) (bs : List Bl) (w : World) : Prop where
  blks : ∀ (i : Nat) (e : Bl), bs[i]? = some e → e.1 = true → w.heap[e.2.1]? = some (.cells e.2.2.2.toArray e.2.2.1 (0, 0)) ∧ w0.B e.2.1
  apart : ∀ (i j : Nat) (e e' : Bl), i ≠ j → bs[i]? = some e → bs[j]? = some e' → e.1 = true → e'.1 = true → e.2.1 ≠ e'.2.1
  below : BelowX w0.X w0.w.heap.size w0.w w
  fz : ∀ (i : Nat) (e : Bool × Fz), w0.S[i]? = some e → e.1 = true → e.2.ok w (Zs w0 bs i) w0.B
def PostX {ρ : Type} (w : World) (Z X : Nat → Prop) (v : ρ → Value) (bf : ρ → List Bl) (E : ρ → List (Bool × Fz)) (e : Ending) (w' : World) : Prop :=
  ∃ r, e = .returned (v r) ∧ Mem ⟨w, [], E r, Z, X⟩ (bf r) w'
def selL {α : Type} (S : List α) : List Nat → Option (List α)
  | [] => some []
  | k :: ks => match S[k]?, selL S ks with
    | some e, some l => some (e :: l)
    | _, _ => none
theorem selL_get {α : Type} {S : List α} : ∀ {ks : List Nat} {S' : List α}, selL S ks = some S' → ∀ (i : Nat) (e : α), S'[i]? = some e → ∃ k, ks[i]? = some k ∧ S[k]? = some e
  | [], S', h, i, e, he => by
    obtain rfl : [] = S' := by simpa [selL] using h
    simp at he
  | k :: ks, S', h, i, e, he => by
    unfold selL at h
    split at h
    · rename_i e0 l h1 h2
      obtain rfl : e0 :: l = S' := by simpa using h
      cases i with
      | zero =>
        obtain rfl : e0 = e := by simpa using he
        exact ⟨k, rfl, h1⟩
      | succ i => exact selL_get h2 i e (by simpa using he)
    · cases h
def setAll {α : Type} (S : List α) : List Nat → List α → List α
  | k :: ks, e :: es => setAll (S.set k e) ks es
  | _, _ => S
theorem setAll_get {α : Type} : ∀ (ks : List Nat) (es S : List α), ks.length = es.length → ∀ (i : Nat) (x : α), (setAll S ks es)[i]? = some x → (∃ p : Nat, ks[p]? = some i ∧ es[p]? = some x) ∨ (S[i]? = some x ∧ i ∉ ks)
  | [], _, S, _, i, x, h => by
    right
    exact ⟨by simpa [setAll] using h, by simp⟩
  | k :: ks, [], _, hl, _, _, _ => by simp at hl
  | k :: ks, e :: es, S, hl, i, x, h => by
    rcases setAll_get ks es (S.set k e) (by simpa using hl) i x h with ⟨p, h1, h2⟩ | ⟨h1, h2⟩
    · exact .inl ⟨p + 1, by simpa using h1, by simpa using h2⟩
    · by_cases hik : i = k
      · subst hik
        left
        refine ⟨0, by simp, ?_⟩
        rw [List.getElem?_set] at h1
        simp at h1
        simp [h1.2]
      · right
        rw [List.getElem?_set, if_neg (fun e => hik e.symm)] at h1
        exact ⟨h1, by simp [hik, h2]⟩
theorem nd_ne {ks : List Nat} (h : ks.Nodup) {i j k : Nat} (hi : ks[i]? = some k) (hj : ks[j]? = some k) : i = j := by
  obtain ⟨l1, e1⟩ := List.getElem?_eq_some_iff.1 hi
  obtain ⟨l2, e2⟩ := List.getElem?_eq_some_iff.1 hj
  have hp := List.pairwise_iff_getElem.1 h
  rcases Nat.lt_trichotomy i j with hlt | heq | hlt
  · exact absurd (e1.trans e2.symm) (hp i j l1 l2 hlt)
  · exact heq
  · exact absurd (e2.trans e1.symm) (hp j i l2 l1 hlt)
section
variable {P : Program} {Q : Exit → Act → World → Prop} {K : Act → World → Prop} {a : Act} {w : World} {o : Oper} {n : Nat} {w0 : Bs} {fs : List Sl} {bs : List Bl}
theorem St.mem (hs : St n w0 fs bs a w) : Mem w0 bs w := ⟨hs.blks, hs.apart, hs.below, hs.fz⟩
theorem Mem.lt (h : Mem w0 bs w) {i : Nat} {e : Bl} (hi : bs[i]? = some e) (h1 : e.1 = true) : e.2.1 < w.heap.size := (Array.getElem?_eq_some_iff.1 (h.blks i e hi h1).1).1
/-- the blocks chosen, in another order -/
theorem St.selB (hs : St n w0 fs bs a w) (kb : List Nat) {bs' : List Bl} (h : selL bs kb = some bs') (hnd : kb.Nodup) : St n w0 fs bs' a w := by
  have key := fun i e he => selL_get h i e he
  refine ⟨hs.size, hs.defers, hs.slots, fun i e he h1 => ?_, fun i j e e' hij he he' h1 h1' => ?_, hs.below, fun p hp => ⟨(hs.frz p hp).1, fun i e he h1 => ?_⟩, fun i e he h1 => ?_⟩
  · obtain ⟨k, _, hk⟩ := key i e he
    exact hs.blks k e hk h1
  · obtain ⟨k, h2, hk⟩ := key i e he
    obtain ⟨k', h2', hk'⟩ := key j e' he'
    exact hs.apart k k' e e' (fun e0 => hij (nd_ne hnd h2 (e0 ▸ h2'))) hk hk' h1 h1'
  · obtain ⟨k, _, hk⟩ := key i e he
    exact (hs.frz p hp).2 k e hk h1
  · refine Fz.ok_mono (fun _ _ h => h) (fun g hg _ => ⟨⟨hg.1, fun j b hj hb1 => ?_, hg.2.2⟩, rfl⟩) (hs.fz i e he h1)
    obtain ⟨k, _, hk⟩ := key j b hj
    exact hg.2.1 k b hk hb1
theorem enterX {f : FuncId} {fn : Func} {c : Code} {args : List Value} {w : World} {R : Ending → World → Prop} {n : Nat} {S : List (Bool × Fz)} {Z X : Nat → Prop} {bs : List Bl} (hf : P.funcs[f]? = some fn) (hb : fn.body = some c) (hn : fn.ntmps = n) (hle : args.length ≤ n)
    (hm : Mem ⟨w, [], S, Z, X⟩ bs w) (h : ∀ a, St n ⟨w, [], S, Z, X⟩ (idx 0 args) bs a w → c.wp P (bodyPost P fn R) a w) : Calls P f args.toArray w R := by
  refine calls_of_wp hf hb (h _ ⟨?_, rfl, ?_, hm.blks, hm.apart, hm.below, (fun p hp => nomatch hp), hm.fz⟩)
  · subst hn; simp; omega
  · intro t v h
    obtain ⟨_, h2⟩ := lk_idx args 0 t v h
    have hlt : t < args.length := (List.getElem?_eq_some_iff.1 h2).1
    rw [Array.getElem?_append_left (by simpa using hlt)]
    simpa using h2
/-- the blocks that a call takes; the blocks that it may trust -/
def Xc (w0 : Bs) (bs : List Bl) (kb ks : List Nat) (g : Nat) : Prop :=
  (∃ j b, j ∈ kb ∧ bs[j]? = some b ∧ b.1 = true ∧ b.2.1 = g) ∨ ∃ j e, j ∈ ks ∧ w0.S[j]? = some e ∧ e.1 = true ∧ e.2.owns g
def Zc (w0 : Bs) (bs : List Bl) (kb ks : List Nat) (g : Nat) : Prop :=
  (w0.Z g ∨ w0.B g) ∧ (∀ (j : Nat) (b : Bl), bs[j]? = some b → b.1 = true → j ∉ kb → b.2.1 ≠ g) ∧ ∀ (j : Nat) (e : Bool × Fz), w0.S[j]? = some e → e.1 = true → j ∉ ks → ¬ e.2.owns g
theorem St.xlt (hs : St n w0 fs bs a w) {kb ks : List Nat} {g : Nat} (h : Xc w0 bs kb ks g) : g < w.heap.size ∧ w0.B g := by
  rcases h with ⟨j, b, _, hb, h1, rfl⟩ | ⟨j, e, _, he, h1, ho⟩
  · exact ⟨hs.lt hb h1, (hs.blks j b hb h1).2⟩
  · obtain ⟨l1, _, l3⟩ := Fz.ok_lt (hs.fz j e he h1) ho
    exact ⟨l1, l3⟩
theorem St.xblk (hs : St n w0 fs bs a w) {kb ks : List Nat} {i : Nat} {e : Bl} (hi : bs[i]? = some e) (h1 : e.1 = true) (hk : i ∉ kb) : ¬ Xc w0 bs kb ks e.2.1 := by
  rintro (⟨j, b, hj, hb, hb1, hg⟩ | ⟨j, x, hj, hx, hx1, ho⟩)
  · exact hs.apart j i b e (fun h => hk (h ▸ hj)) hb hi hb1 h1 hg
  · exact (Fz.ok_lt (hs.fz j x hx hx1) ho).2.1.2.1 i e hi h1 rfl
theorem xzs {kb ks : List Nat} {i g : Nat} (hz : Zs w0 bs i g) (hk : i ∉ ks) : ¬ Xc w0 bs kb ks g := by
  rintro (⟨j, b, hj, hb, hb1, hg⟩ | ⟨j, x, hj, hx, hx1, ho⟩)
  · exact hz.2.1 j b hb hb1 hg
  · exact hz.2.2 j x (fun h => hk (h ▸ hj)) hx hx1 ho
theorem St.toMem (hs : St n w0 fs bs a w) {kb ks : List Nat} {S1 : List (Bool × Fz)} {bs1 : List Bl} (hS1 : selL w0.S ks = some S1) (hb1 : selL bs kb = some bs1) (hnd : ks.Nodup) (hndb : kb.Nodup) :
    Mem ⟨w, [], S1, Zc w0 bs kb ks, Xc w0 bs kb ks⟩ bs1 w := by
  have keyS := fun i e he => selL_get hS1 i e he
  have keyB := fun i e he => selL_get hb1 i e he
  refine ⟨fun i e he h1 => ?_, fun i j e e' hij he he' h1 h1' => ?_, BelowX.refl _ _, fun i e he h1 => ?_⟩
  · obtain ⟨k, hk, hb⟩ := keyB i e he
    exact ⟨(hs.blks k e hb h1).1, .inr (.inl ⟨k, e, List.mem_of_getElem? hk, hb, h1, rfl⟩)⟩
  · obtain ⟨k, h2, hk⟩ := keyB i e he
    obtain ⟨k', h2', hk'⟩ := keyB j e' he'
    exact hs.apart k k' e e' (fun e0 => hij (nd_ne hndb h2 (e0 ▸ h2'))) hk hk' h1 h1'
  · obtain ⟨k, hk, hS⟩ := keyS i e he
    refine Fz.ok_mono (fun g ho _ => .inr (.inr ⟨k, e, List.mem_of_getElem? hk, hS, h1, ho⟩)) (fun g hg _ => ⟨⟨.inl ⟨hg.1, fun j b hj hb1 _ => hg.2.1 j b hj hb1, fun j x hj hx hjk => ?_⟩, fun j b hj hb1 => ?_, fun j x hji hj hx => ?_⟩, rfl⟩) (hs.fz k e hS h1)
    · exact hg.2.2 j x (fun e0 => hjk (e0 ▸ List.mem_of_getElem? hk)) hj hx
    · obtain ⟨k', _, hk'⟩ := keyB j b hj
      exact hg.2.1 k' b hk' hb1
    · obtain ⟨k', h2', hk'⟩ := keyS j x hj
      exact hg.2.2 k' x (fun e0 => hji (nd_ne hnd (e0 ▸ h2') hk)) hk' hx
theorem St.ofMem (hs : St n w0 fs bs a w) (hF : w0.F = []) {kb ks : List Nat} {E1 : List (Bool × Fz)} {E2 : List Fz} {bf : List Bl} {ms : Option Nat} {w' : World} (hE1 : ks.length = E1.length) (hbf : kb.length = bf.length) (hokS : okS ms (setAll w0.S ks E1) E2.length = true)
    (hm : Mem ⟨w, [], E1 ++ E2.map (true, ·), Zc w0 bs kb ks, Xc w0 bs kb ks⟩ bf w') :
    St n (w0.withS (putS ms (setAll w0.S ks E1) E2)) fs (setAll bs kb bf) a w' := by
  have hsz : w0.w.heap.size ≤ w.heap.size := hs.below.size
  have keyB := fun i x hx => setAll_get kb bf bs hbf i x hx
  obtain ⟨k0, pkey⟩ := putS_get hokS
  have keyS : ∀ (i : Nat) (x : Bool × Fz), (putS ms (setAll w0.S ks E1) E2)[i]? = some x → x.1 = true → (∃ p, (E1 ++ E2.map (true, ·))[p]? = some x ∧ ((p < ks.length ∧ ks[p]? = some i) ∨ (ks.length ≤ p ∧ i = k0 + (p - ks.length)))) ∨ (w0.S[i]? = some x ∧ i ∉ ks) := by
    intro i x hx h1
    rcases pkey i x hx with ⟨hki, _, hl⟩ | ⟨hS, _⟩
    · left
      refine ⟨ks.length + (i - k0), ?_, .inr ⟨by omega, by omega⟩⟩
      rw [List.getElem?_append_right (by omega), hE1, Nat.add_sub_cancel_left, List.getElem?_map, hl]
      obtain ⟨b, e⟩ := x
      simp only at h1
      subst h1
      rfl
    · rcases setAll_get ks E1 w0.S hE1 i x hS with ⟨p, h2, h3⟩ | h2
      · left
        have hp := (List.getElem?_eq_some_iff.1 h2).1
        exact ⟨p, by rw [List.getElem?_append_left (by omega)]; exact h3, .inl ⟨hp, h2⟩⟩
      · exact .inr h2
  have upB : ∀ g, Bn w.heap.size (Xc w0 bs kb ks) g → w0.B g := by
    rintro g (h | h)
    · exact .inl (Nat.le_trans hsz h)
    · exact (hs.xlt h).2
  have newne : ∀ g g', Bn w.heap.size (Xc w0 bs kb ks) g → g' < w.heap.size → ¬ Xc w0 bs kb ks g' → g ≠ g' := by
    rintro g g' (h | h) hlt hx rfl
    · omega
    · exact hx h
  refine ⟨hs.size, hs.defers, hs.slots, fun i e he h1 => ?_, fun i j e e' hij he he' h1 h1' => ?_, ?_, (fun p hp => by rw [hF] at hp; cases hp), fun i e he h1 => ?_⟩
  · rcases keyB i e he with ⟨p, _, hp⟩ | ⟨hb, hk⟩
    · exact ⟨(hm.blks p e hp h1).1, upB _ (hm.blks p e hp h1).2⟩
    · exact ⟨(hm.below.block _ (hs.lt hb h1) (hs.xblk hb h1 hk)).trans (hs.blks i e hb h1).1, (hs.blks i e hb h1).2⟩
  · rcases keyB i e he with ⟨p, h2, hp⟩ | ⟨hb, hk⟩ <;> rcases keyB j e' he' with ⟨q, h3, hq⟩ | ⟨hb', hk'⟩
    · exact hm.apart p q e e' (fun e0 => hij (by rw [e0, h3] at h2; exact (Option.some.inj h2).symm)) hp hq h1 h1'
    · exact newne _ _ (hm.blks p e hp h1).2 (hs.lt hb' h1') (hs.xblk hb' h1' hk')
    · exact (newne _ _ (hm.blks q e' hq h1').2 (hs.lt hb h1) (hs.xblk hb h1 hk)).symm
    · exact hs.apart i j e e' hij hb hb' h1 h1'
  · refine hs.below.trans ⟨hm.below.os, hm.below.tape, hm.below.output, hm.below.size, fun k hk hx => hm.below.block k (Nat.lt_of_lt_of_le hk hsz) fun hX => ?_⟩
    rcases (hs.xlt hX).2 with h | h
    · have h' : w0.w.heap.size ≤ k := h
      omega
    · exact hx h
  · rcases keyS i e he h1 with ⟨p, hp, hpi⟩ | ⟨hS, hk⟩
    · refine Fz.ok_mono (fun g _ h => upB g h) (fun g hg _ => ⟨⟨?_, fun j b hj hb1 => ?_, fun j x hji hj hx => ?_⟩, rfl⟩) (hm.fz p e hp h1)
      · rcases hg.1 with h | h
        · exact h.1
        · exact .inr (upB g h)
      · rcases keyB j b hj with ⟨q, _, hq⟩ | ⟨hb, hkb⟩
        · exact hg.2.1 q b hq hb1
        · rcases hg.1 with h | h
          · exact h.2.1 j b hb hb1 hkb
          · exact (newne _ _ h (hs.lt hb hb1) (hs.xblk hb hb1 hkb)).symm
      · rcases keyS j x hj hx with ⟨q, hq, hqj⟩ | ⟨hSj, hkj⟩
        · refine hg.2.2 q x (fun e0 => hji ?_) hq hx
          subst e0
          rcases hpi with ⟨h2, h3⟩ | ⟨h2, h3⟩ <;> rcases hqj with ⟨h4, h5⟩ | ⟨h4, h5⟩
          · rw [h3] at h5; exact (Option.some.inj h5).symm
          · omega
          · omega
          · omega
        · rcases hg.1 with h | h
          · exact h.2.2 j x hSj hx hkj
          · intro ho
            obtain ⟨l1, l2, _⟩ := Fz.ok_lt (hs.fz j x hSj hx) ho
            exact newne _ _ h l1 (xzs l2 hkj) rfl
    · refine Fz.ok_mono (fun _ _ h => h) (fun g hg hlt => ⟨⟨hg.1, fun j b hj hb1 => ?_, fun j x hji hj hx => ?_⟩, hm.below.block g hlt (xzs hg hk)⟩) (hs.fz i e hS h1)
      · rcases keyB j b hj with ⟨q, _, hq⟩ | ⟨hb, hkb⟩
        · exact newne _ _ (hm.blks q b hq hb1).2 hlt (xzs hg hk)
        · exact hg.2.1 j b hb hb1
      · rcases keyS j x hj hx with ⟨q, hq, hqj⟩ | ⟨hSj, _⟩
        · intro ho
          exact newne _ _ (Fz.ok_lt (hm.fz q x hq hx) ho).2.2 hlt (xzs hg hk) rfl
        · exact hg.2.2 j x hji hSj hx
/-- a call that takes blocks and entries of the caller's, and gives others in their place, and new ones -/
theorem op_callX {F : FuncId} {ρ : Type} (hs : St n w0 fs bs a w) (m ms : Option Nat) (kb ks : List Nat) {f : Operand} {xs : Array Operand} {ts : Array TypeId} {vs : List Value} {v : ρ → Value} {S1 : List (Bool × Fz)} {bs1 : List Bl} {E : ρ → List (Bool × Fz)} {E1 : ρ → List (Bool × Fz)} {E2 : ρ → List Fz} {bf : ρ → List Bl} {d : Nat}
    (hF : w0.F = []) (ho : o.op = .call ⟨.value f, xs, ts⟩) (hd : o.dst = some d)
    (hf : ev fs f = some (.func (.func F) #[] #[])) (hx : evs fs xs.toList = some vs) (hcl : ∀ w, (callFunc F vs.toArray).run P w = .ok (.enter F vs.toArray) w)
    (hS1 : selL w0.S ks = some S1) (hb1 : selL bs kb = some bs1) (hnd : ks.Nodup) (hndb : kb.Nodup)
    (hc : ∀ Z X, Mem ⟨w, [], S1, Z, X⟩ bs1 w → Calls P F vs.toArray w (PostX w Z X v bf E)) (hE : ∀ r, E r = E1 r ++ (E2 r).map (true, ·)) (hE1 : ∀ r, ks.length = (E1 r).length) (hbf : ∀ r, kb.length = (bf r).length)
    (hokS : ∀ r, okS ms (setAll w0.S ks (E1 r)) (E2 r).length = true) (hok : okf m fs d n = true)
    (h : ∀ r a' w', St n (w0.withS (putS ms (setAll w0.S ks (E1 r)) (E2 r))) (putf m fs d (v r)) (setAll bs kb (bf r)) a' w' → K a' w') : o.wp P a w K Q := by
  have hm : xs.map a.eval = vs.toArray := by
    have := hs.evs hx
    rw [← this, ← Array.toList_map]
  unfold Oper.wp execOp
  rw [ho]
  simp only [resolve, hs.ev hf, hm, Deferred.ofValue, Sem.run_bind, Sem.run_pure, Result.andThen_ok, invoke, Array.empty_append, Array.append_empty, hcl, Oper.upon_enter, hd]
  refine (hc _ _ (hs.toMem hS1 hb1 hnd hndb)).mono ?_
  rintro e w' ⟨r, rfl, hL⟩
  rw [hE] at hL
  exact h _ _ _ ((hs.ofMem hF (hE1 r) (hbf r) (hokS r) hL).put hok _)
theorem op_callX0 {F : FuncId} {ρ : Type} (hs : St n w0 fs bs a w) (ms : Option Nat) (kb ks : List Nat) {f : Operand} {xs : Array Operand} {ts : Array TypeId} {vs : List Value} {v : ρ → Value} {S1 : List (Bool × Fz)} {bs1 : List Bl} {E : ρ → List (Bool × Fz)} {E1 : ρ → List (Bool × Fz)} {E2 : ρ → List Fz} {bf : ρ → List Bl}
    (hF : w0.F = []) (ho : o.op = .call ⟨.value f, xs, ts⟩) (hd : o.dst = none)
    (hf : ev fs f = some (.func (.func F) #[] #[])) (hx : evs fs xs.toList = some vs) (hcl : ∀ w, (callFunc F vs.toArray).run P w = .ok (.enter F vs.toArray) w)
    (hS1 : selL w0.S ks = some S1) (hb1 : selL bs kb = some bs1) (hnd : ks.Nodup) (hndb : kb.Nodup)
    (hc : ∀ Z X, Mem ⟨w, [], S1, Z, X⟩ bs1 w → Calls P F vs.toArray w (PostX w Z X v bf E)) (hE : ∀ r, E r = E1 r ++ (E2 r).map (true, ·)) (hE1 : ∀ r, ks.length = (E1 r).length) (hbf : ∀ r, kb.length = (bf r).length)
    (hokS : ∀ r, okS ms (setAll w0.S ks (E1 r)) (E2 r).length = true)
    (h : ∀ r w', St n (w0.withS (putS ms (setAll w0.S ks (E1 r)) (E2 r))) fs (setAll bs kb (bf r)) a w' → K a w') : o.wp P a w K Q := by
  have hm : xs.map a.eval = vs.toArray := by
    have := hs.evs hx
    rw [← this, ← Array.toList_map]
  unfold Oper.wp execOp
  rw [ho]
  simp only [resolve, hs.ev hf, hm, Deferred.ofValue, Sem.run_bind, Sem.run_pure, Result.andThen_ok, invoke, Array.empty_append, Array.append_empty, hcl, Oper.upon_enter, hd]
  refine (hc _ _ (hs.toMem hS1 hb1 hnd hndb)).mono ?_
  rintro e w' ⟨r, rfl, hL⟩
  rw [hE] at hL
  exact h _ _ (hs.ofMem hF (hE1 r) (hbf r) (hokS r) hL)
/-- a call that only looks, and hands back nothing that lies in memory: whatever the caller has may be looked at -/
theorem op_callU {F : FuncId} {ρ : Type} (hs : St n w0 fs bs a w) (m : Option Nat) {f : Operand} {xs : Array Operand} {ts : Array TypeId} {vs : List Value} {v : ρ → Value} {d : Nat} (ho : o.op = .call ⟨.value f, xs, ts⟩) (hd : o.dst = some d)
    (hf : ev fs f = some (.func (.func F) #[] #[])) (hx : evs fs xs.toList = some vs) (hcl : ∀ w, (callFunc F vs.toArray).run P w = .ok (.enter F vs.toArray) w)
    (hc : St n w0 fs bs a w → Calls P F vs.toArray w (Ret w (fun _ => True) v fun _ => [])) (hok : okf m fs d n = true)
    (h : ∀ r a' w', St n w0 (putf m fs d (v r)) bs a' w' → K a' w') : o.wp P a w K Q := by
  have hm : xs.map a.eval = vs.toArray := by
    have := hs.evs hx
    rw [← this, ← Array.toList_map]
  unfold Oper.wp execOp
  rw [ho]
  simp only [resolve, hs.ev hf, hm, Deferred.ofValue, Sem.run_bind, Sem.run_pure, Result.andThen_ok, invoke, Array.empty_append, Array.append_empty, hcl, Oper.upon_enter, hd]
  refine (hc hs).mono ?_
  rintro e w' ⟨r, rfl, hb, _⟩
  exact h _ _ _ ((hs.grow hb).put hok _)
/-- what an entry says, where nobody asks where it lies -/
theorem CelV.tru {Z : Nat → Prop} {v : Value} {N : Nat} {cs : List Value} (h : CelV w Z v N cs) : CelV w (fun _ => True) v N cs := h.any fun _ _ => trivial
theorem St.rowB (hs : St n w0 fs bs a w) {k : Nat} {G : Nat → Prop} {vs : List Value} {ls : List (List UInt8)} (h : w0.S[k]? = some (true, .bysO G vs ls) ∨ w0.S[k]? = some (true, .bys vs ls)) : BysV w (fun _ => True) vs ls := by
  rcases h with h | h
  · exact BysV.mono (hs.fz k _ h rfl).1 fun _ _ _ => ⟨trivial, rfl⟩
  · exact BysV.mono (hs.fz k _ h rfl) fun _ _ _ => ⟨trivial, rfl⟩
/-- a list of one's own -/
theorem St.nilBysO (hs : St n w0 fs bs a w) (m : Option Nat) (hok : okS m w0.S 1 = true) : St n (w0.withS (putS m w0.S [.bysO noX [] []])) fs bs a w :=
  hs.pushS m hok (okl1 ⟨⟨rfl, fun i v l h => by simp at h⟩, fun g hg => hg.elim⟩)
theorem okl_own0 {w : World} {Z B : Nat → Prop} {E : TypeId} {size : Nat} : OkL w Z B [.own (.slice none 0 0) E size 0 []] := okl1 ⟨World.ownsRow_nil w _ E size, fun g hg => by cases hg⟩
theorem okl_nilO {w : World} {Z B : Nat → Prop} {E : TypeId} {l : List UInt8} (h : l = []) : OkL w Z B [.own (.slice none l.length 0) E 1 l.length (bcs l)] := by
  subst h; exact okl_own0
theorem okl2 {w : World} {Z B : Nat → Prop} {e e' : Fz} (h : e.ok w (fun g => (Z g ∨ B g) ∧ ¬ e'.owns g) B) (h' : e'.ok w (fun g => (Z g ∨ B g) ∧ ¬ e.owns g) B) : OkL w Z B [e, e'] := by
  intro i x hx
  match i, hx with
  | 0, hx =>
    obtain rfl : e = x := by simpa using hx
    refine Fz.ok_mono (fun _ _ h => h) (fun g hg _ => ⟨⟨hg.1, fun j y hj hy => ?_⟩, rfl⟩) h
    match j, hj, hy with
    | 0, hj, _ => exact absurd rfl hj
    | 1, _, hy => obtain rfl : e' = y := by simpa using hy
                  exact hg.2
    | j + 2, _, hy => simp at hy
  | 1, hx =>
    obtain rfl : e' = x := by simpa using hx
    refine Fz.ok_mono (fun _ _ h => h) (fun g hg _ => ⟨⟨hg.1, fun j y hj hy => ?_⟩, rfl⟩) h'
    match j, hj, hy with
    | 0, _, hy => obtain rfl : e = y := by simpa using hy
                  exact hg.2
    | 1, hj, _ => exact absurd rfl hj
    | j + 2, _, hy => simp at hy
  | i + 2, hx => simp at hx
theorem ok_nilRow {w : World} {Z B : Nat → Prop} {E : TypeId} {size : Nat} : Fz.ok w Z B (.own (.slice none 0 0) E size 0 []) := ⟨World.ownsRow_nil w _ E size, fun g hg => by cases hg⟩
theorem ok_nilBysO {w : World} {Z B : Nat → Prop} : Fz.ok w Z B (.bysO noX [] []) := ⟨⟨rfl, fun i v l h => by simp at h⟩, fun g hg => hg.elim⟩
/-- a list of one's own grows by a row of one's own -/
def GU (G : Nat → Prop) (v : Value) (g : Nat) : Prop := G g ∨ v.ownBlock = some g
theorem St.snocOwn (hs : St n w0 fs bs a w) (k kp : Nat) {G : Nat → Prop} {vs : List Value} {ls ls' : List (List UInt8)} {v : Value} {E : TypeId} {l : List UInt8} (h : w0.S[k]? = some (true, .bysO G vs ls)) (hp : w0.S[kp]? = some (true, .own v E 1 l.length (bcs l))) (hl : ls ++ [l] = ls') :
    St n (w0.withS ((w0.S.set k (true, .bysO (GU G v) (vs ++ [v]) ls')).set kp (false, .bys [] []))) fs bs a w := by
  subst hl
  have hkk : k ≠ kp := fun e => by subst e; rw [h] at hp; cases hp
  have key : ∀ (i : Nat) (x : Bool × Fz), ((w0.S.set k (true, .bysO (GU G v) (vs ++ [v]) (ls ++ [l]))).set kp (false, .bys [] []))[i]? = some x → x.1 = true → (i = k ∧ x = (true, .bysO (GU G v) (vs ++ [v]) (ls ++ [l]))) ∨ (i ≠ k ∧ i ≠ kp ∧ w0.S[i]? = some x) := by
    intro i x hx h1
    rw [List.getElem?_set] at hx
    split at hx
    · split at hx
      · obtain rfl := Option.some.inj hx
        cases h1
      · cases hx
    · rename_i hikp
      rw [List.getElem?_set] at hx
      split at hx
      · rename_i hik
        split at hx
        · exact .inl ⟨hik.symm, by simpa using hx.symm⟩
        · cases hx
      · rename_i hik; exact .inr ⟨fun e => hik e.symm, fun e => hikp e.symm, hx⟩
  have h1 := hs.fz k _ h rfl
  have h2 := hs.fz kp _ hp rfl
  refine ⟨hs.size, hs.defers, hs.slots, hs.blks, hs.apart, hs.below, hs.frz, fun i x hx hx1 => ?_⟩
  rcases key i x hx hx1 with ⟨rfl, rfl⟩ | ⟨hik, hikp, hS⟩
  · refine ⟨bysv_snoc (h1.1.mono fun g hg _ => ⟨.inl hg, rfl⟩) (own_cel h2.1 fun g hg => .inr hg), fun g hg => ?_⟩
    have fin : ∀ j0, (j0 = i ∨ j0 = kp) → Zs w0 bs j0 g → Zs (w0.withS ((w0.S.set i (true, .bysO (GU G v) (vs ++ [v]) (ls ++ [l]))).set kp (false, .bys [] []))) bs i g := fun j0 hj0 hz => ⟨hz.1, hz.2.1, fun j y hji hj hy ho => by
      rcases key j y hj hy with ⟨e, _⟩ | ⟨e1, e2, h3⟩
      · exact hji e
      · exact hz.2.2 j y (by rcases hj0 with rfl | rfl <;> assumption) h3 hy ho⟩
    rcases hg with hg | hg
    · obtain ⟨b1, b2, b3⟩ := h1.2 g hg
      exact ⟨b1, fin i (.inl rfl) b2, b3⟩
    · obtain ⟨b2, b1⟩ := h2.2 g hg
      refine ⟨b1, fin kp (.inr rfl) b2, ?_⟩
      rcases h2.1.2 with ⟨rfl, _⟩ | ⟨g', cap, cur, rfl, _, hh, _⟩
      · cases hg
      · have : g' = g := by simpa [Value.ownBlock] using hg
        subst this
        exact ⟨cur, E, hh⟩
  · refine Fz.ok_mono (fun _ _ h => h) (fun g hg _ => ⟨⟨hg.1, hg.2.1, fun j y hji hj hy ho => ?_⟩, rfl⟩) (hs.fz i x hS hx1)
    rcases key j y hj hy with ⟨rfl, rfl⟩ | ⟨_, _, h3⟩
    · rcases ho with ho | ho
      · exact hg.2.2 j _ hji h rfl ho
      · exact hg.2.2 kp _ (fun e => hikp e.symm) hp rfl ho
    · exact hg.2.2 j y hji h3 hy ho
/-- a list of one's own that is no longer written -/
theorem St.freezeB (hs : St n w0 fs bs a w) (k : Nat) {G : Nat → Prop} {vs : List Value} {ls : List (List UInt8)} (h : w0.S[k]? = some (true, .bysO G vs ls)) : St n (w0.withS (w0.S.set k (true, .bys vs ls))) fs bs a w :=
  hs.conS k h (fun Z hz => hz.1.mono fun g hg _ => ⟨(hz.2 g hg).2.1, rfl⟩) (fun g hg => by cases hg)
/-- its bytes are forgotten -/
theorem St.toWrs (hs : St n w0 fs bs a w) (k : Nat) {G : Nat → Prop} {vs : List Value} {ls : List (List UInt8)} (h : w0.S[k]? = some (true, .bysO G vs ls)) : St n (w0.withS (w0.S.set k (true, .wrs G vs (ls.map List.length)))) fs bs a w := by
  refine hs.conS k h (fun Z hz => ⟨⟨by simpa using hz.1.1, fun i v n hv hn => ?_⟩, hz.2⟩) (fun g hg => hg)
  rw [List.getElem?_map, Option.map_eq_some_iff] at hn
  obtain ⟨l, hl, rfl⟩ := hn
  obtain ⟨ad, c, e, h1, h2, h3, h4⟩ := hz.1.2 i v l hv hl
  refine ⟨ad, c, e, h1, h2, h3, fun j hj => ?_⟩
  obtain ⟨g, off, e2, hg, hc⟩ := h4 j _ (bcs_get hj)
  exact ⟨g, off, _, e2, hg, hc⟩
theorem St.wrs_at (hs : St n w0 fs bs a w) {k : Nat} {G : Nat → Prop} {vs : List Value} {ns : List Nat} (h : w0.S[k]? = some (true, .wrs G vs ns)) {i N : Nat} (hn : ns[i]? = some N) : ∃ ad c, vs[i]? = some (.slice ad N c) := by
  have h1 := (hs.fz k _ h rfl).1
  have hi : i < vs.length := by rw [h1.1]; exact (List.getElem?_eq_some_iff.1 hn).1
  obtain ⟨ad, c, e, _⟩ := h1.2 i vs[i] N (by simp [hi]) hn
  exact ⟨ad, c, by simp [hi, e]⟩
/-- an index into a slice whose bytes are not known -/
theorem op_idxW (hs : St n w0 fs bs a w) (m : Option Nat) (k i : Nat) {G : Nat → Prop} {vs : List Value} {ns : List Nat} {T E : TypeId} {x y : Operand} {ad : Option Addr} {N c : Nat} {κ : IntKind} {j : Nat} {d : Nat} (ho : o.op = .indexAddr T x y) (hd : o.dst = some d) (hx : ev fs x = some (.slice ad N c)) (hy : ev fs y = some (.int κ (j : Int)))
    (hk : w0.S[k]? = some (true, .wrs G vs ns)) (hv : vs[i]? = some (.slice ad N c)) (hn : ns[i]? = some N) (hu : P.underlying T = some (.slice E)) (hz : ∀ w, (sizeOf E).run P w = .ok 1 w) (hj : j < N) (hok : okf m fs d n = true)
    (h : ∀ a', St n w0 (putf m fs d (vidx (.slice ad N c) j)) bs a' w → K a' w) : o.wp P a w K Q := by
  obtain ⟨ad', c', e, h1, h2, h3, h4⟩ := (hs.fz k _ hk rfl).1.2 i _ _ hv hn
  obtain ⟨g, off, u, rfl, _, _⟩ := h4 j hj
  refine op_val hs m hd hok ?_ h
  unfold execOp
  rw [ho]
  obtain ⟨rfl, rfl⟩ : ad = some ⟨g, off, none⟩ ∧ c = c' := by simpa using e
  have h1' : (0 : Int) ≤ (j : Int) ∧ (j : Int) < (N : Int) := ⟨by omega, by omega⟩
  simp [hs.ev hx, hs.ev hy, Instr.indexAt, asIntOf, Sem.run_bind, run_underlying hu, Result.andThen, hz, h1', hj, vidx]
theorem op_storeW (hs : St n w0 fs bs a w) (k i : Nat) {G : Nat → Prop} {vs : List Value} {ns : List Nat} {t : TypeId} {x y : Operand} {ad : Option Addr} {N c j : Nat} {u : Value} (hF : w0.F = []) (ho : o.op = .store t x y) (hd : o.dst = none)
    (hx : ev fs x = some (vidx (.slice ad N c) j)) (hy : ev fs y = some u) (hk : w0.S[k]? = some (true, .wrs G vs ns)) (hv : vs[i]? = some (.slice ad N c)) (hn : ns[i]? = some N) (hj : j < N) (hz : ∀ w, (sizeOf t).run P w = .ok 1 w) (hu : u.cells = #[u]) (h1 : u.oneCell' = true)
    (h : ∀ w', St n w0 fs bs a w' → K a w') : o.wp P a w K Q := by
  have hok := hs.fz k _ hk rfl
  obtain ⟨ad', c', e, hN, hm, hn0, hcell⟩ := hok.1.2 i _ _ hv hn
  obtain ⟨g, off, u0, rfl, hG, hc0⟩ := hcell j hj
  obtain ⟨rfl, rfl⟩ : ad = some ⟨g, off, none⟩ ∧ c = c' := by simpa using e
  obtain ⟨hB, hZ, cur, T, hblk⟩ := hok.2 g hG
  have hx' : a.eval x = .pointer (some ⟨g, off + j, none⟩) := by rw [hs.ev hx]; simp [vidx, Addr.add_mid]
  have hrun : (Instr.storeAt t (.pointer (some ⟨g, off + j, none⟩)) u).run P w = .ok () (w.setCells g (off + j) [u]) := by
    have := run_storeCells_cells (P := P) g (off + j) [u] 0 w (fun q hq => by
      have : q = 0 := by simpa using hq
      subst this
      simp only [Nat.add_zero]; rw [hc0]; rfl) (fun q hq => frozen_of_row w g _ _ T hblk) (fun v hv => by obtain rfl := List.mem_singleton.1 hv; exact h1)
    simp only [Nat.add_zero] at this
    simp only [Instr.storeAt, Instr.sureAddr, Sem.run_bind, Sem.run_pure, Result.andThen_ok, storeVar, hz, hu]
    simpa using this
  have hcells : ∀ p, w.cell? p ≠ none → (w.setCells g (off + j) [u]).cell? p ≠ none := by
    intro p hp
    by_cases hpe : p.block = g
    · obtain ⟨pb, po, ps⟩ := p
      simp only at hpe
      subst hpe
      cases hq : w.cell? ⟨pb, po, ps⟩ with
      | none => exact absurd hq hp
      | some z =>
        have hsp : ps = none := World.cell?_spot hq
        subst hsp
        have e1 := heap_setCells_at pb T [u] (off + j) w cur.toList (by simpa using hblk)
        rw [cell_of_row _ pb po _ T _ e1]
        rw [cell_of_row w pb po cur T _ hblk] at hq
        have : po < cur.size := (Array.getElem?_eq_some_iff.1 hq).1
        simp [wr_length, this]
    · rw [World.cell?_of_block (w := w) (heap_setCells_far g p.block hpe [u] (off + j) w)]
      exact hp
  unfold Oper.wp execOp
  rw [ho]
  simp only [hx', hs.ev hy, Sem.run_bind, hrun, Result.andThen_ok, Sem.run_pure, Oper.upon_skip, hd]
  obtain ⟨r1, r2, r3, r4⟩ := setCells_rest g [u] (off + j) w
  refine h _ ⟨hs.size, hs.defers, hs.slots, fun q e he he1 => ?_, hs.apart, ?_, (fun p hp => by rw [hF] at hp; cases hp), fun q e he he1 => ?_⟩
  · have hne : e.2.1 ≠ g := hZ.2.1 q e he he1
    exact ⟨(heap_setCells_far g _ hne _ _ w).trans (hs.blks q e he he1).1, (hs.blks q e he he1).2⟩
  · refine hs.below.trans ⟨r1, r2, r3, by rw [r4]; exact Nat.le_refl _, fun p hp hpx => heap_setCells_far g p (fun e => ?_) _ _ w⟩
    subst e
    rcases hB with hB | hB
    · have h' : w0.w.heap.size ≤ p := hB
      omega
    · exact hpx hB
  · by_cases hqk : q = k
    · subst hqk
      rw [hk] at he
      obtain rfl := Option.some.inj he
      refine ⟨⟨hok.1.1, fun i' v' n' hv' hn' => ?_⟩, fun g' hg' => ?_⟩
      · obtain ⟨ad, c, e, k1, k2, k3, k4⟩ := hok.1.2 i' v' n' hv' hn'
        refine ⟨ad, c, e, k1, k2, k3, fun j' hj' => ?_⟩
        obtain ⟨g', off', u', e2, hg', hc'⟩ := k4 j' hj'
        cases hq : (w.setCells g (off + j) [u]).cell? ⟨g', off' + j', none⟩ with
        | none => exact absurd hq (hcells _ (by rw [hc']; simp))
        | some z => exact ⟨g', off', z, e2, hg', hq⟩
      · obtain ⟨b1, b2, cur', T', b3⟩ := hok.2 g' hg'
        refine ⟨b1, b2, ?_⟩
        by_cases hgg : g' = g
        · subst hgg
          exact ⟨_, _, heap_setCells_at g' T [u] (off + j) w cur.toList (by simpa using hblk)⟩
        · exact ⟨cur', T', (heap_setCells_far g g' hgg _ _ w).trans b3⟩
    · refine Fz.ok_mono (fun _ _ h => h) (fun g' hg' _ => ⟨hg', heap_setCells_far g g' (fun e => ?_) _ _ w⟩) (hs.fz q e he he1)
      subst e
      exact hg'.2.2 k _ (fun e => hqk e.symm) hk rfl hG
end
end Go.Proofs.Ytbjnlcblaonccaa
