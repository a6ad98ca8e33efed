/- Several texts in one: Mem, U, ShaP, SchP, SchO, Scal, Inv, WBit, WTwice, WLess, WideW. -/
import Derived.Test.YtejbajgpiecjcaaG2
import Derived.Laws.Append
import Derived.Laws.Strings
import Derived.Laws.BitsAllLaws

/- Calls that write blocks of the caller's; calls that only look; lists of byte strings of one's own. -/
namespace Go.Proofs.Ytejbajgpiecjcaa
open Go.RowKit
/-- what a state says of memory -/
structure Mem (w0 : Bs) (bs : List Bl) (w : World) : Prop where
  blks : ∀ (i : Nat) (e : Bl), bs[i]? = some e → e.1 = true → w.heap[e.2.1]? = some (.cells e.2.2.2.toArray e.2.2.1 (0, 0)) ∧ w0.B e.2.1
  apart : ∀ (i j : Nat) (e e' : Bl), i ≠ j → bs[i]? = some e → bs[j]? = some e' → e.1 = true → e'.1 = true → e.2.1 ≠ e'.2.1
  below : BelowX w0.X w0.w.heap.size w0.w w
  fz : ∀ (i : Nat) (e : Bool × Fz), w0.S[i]? = some e → e.1 = true → e.2.ok w (Zs w0 bs i) w0.B
def PostX {ρ : Type} (w : World) (Z X : Nat → Prop) (v : ρ → Value) (bf : ρ → List Bl) (E : ρ → List (Bool × Fz)) (e : Ending) (w' : World) : Prop :=
  ∃ r, e = .returned (v r) ∧ Mem ⟨w, [], E r, Z, X⟩ (bf r) w'
def selL {α : Type} (S : List α) : List Nat → Option (List α)
  | [] => some []
  | k :: ks => match S[k]?, selL S ks with
    | some e, some l => some (e :: l)
    | _, _ => none
theorem selL_get {α : Type} {S : List α} : ∀ {ks : List Nat} {S' : List α}, selL S ks = some S' → ∀ (i : Nat) (e : α), S'[i]? = some e → ∃ k, ks[i]? = some k ∧ S[k]? = some e
  | [], S', h, i, e, he => by
    obtain rfl : [] = S' := by simpa [selL] using h
    simp at he
  | k :: ks, S', h, i, e, he => by
    unfold selL at h
    split at h
    · rename_i e0 l h1 h2
      obtain rfl : e0 :: l = S' := by simpa using h
      cases i with
      | zero =>
        obtain rfl : e0 = e := by simpa using he
        exact ⟨k, rfl, h1⟩
      | succ i => exact selL_get h2 i e (by simpa using he)
    · cases h
def setAll {α : Type} (S : List α) : List Nat → List α → List α
  | k :: ks, e :: es => setAll (S.set k e) ks es
  | _, _ => S
theorem setAll_get {α : Type} : ∀ (ks : List Nat) (es S : List α), ks.length = es.length → ∀ (i : Nat) (x : α), (setAll S ks es)[i]? = some x → (∃ p : Nat, ks[p]? = some i ∧ es[p]? = some x) ∨ (S[i]? = some x ∧ i ∉ ks)
  | [], _, S, _, i, x, h => by
    right
    exact ⟨by simpa [setAll] using h, by simp⟩
  | k :: ks, [], _, hl, _, _, _ => by simp at hl
  | k :: ks, e :: es, S, hl, i, x, h => by
    rcases setAll_get ks es (S.set k e) (by simpa using hl) i x h with ⟨p, h1, h2⟩ | ⟨h1, h2⟩
    · exact .inl ⟨p + 1, by simpa using h1, by simpa using h2⟩
    · by_cases hik : i = k
      · subst hik
        left
        refine ⟨0, by simp, ?_⟩
        rw [List.getElem?_set] at h1
        simp at h1
        simp [h1.2]
      · right
        rw [List.getElem?_set, if_neg (fun e => hik e.symm)] at h1
        exact ⟨h1, by simp [hik, h2]⟩
theorem setAll_length {α : Type} : ∀ (ks : List Nat) (es S : List α), (setAll S ks es).length = S.length
  | [], _, S => by simp [setAll]
  | _ :: _, [], _ => by simp [setAll]
  | k :: ks, e :: es, S => by rw [setAll, setAll_length ks es, List.length_set]
theorem nd_ne {ks : List Nat} (h : ks.Nodup) {i j k : Nat} (hi : ks[i]? = some k) (hj : ks[j]? = some k) : i = j := by
  obtain ⟨l1, e1⟩ := List.getElem?_eq_some_iff.1 hi
  obtain ⟨l2, e2⟩ := List.getElem?_eq_some_iff.1 hj
  have hp := List.pairwise_iff_getElem.1 h
  rcases Nat.lt_trichotomy i j with hlt | heq | hlt
  · exact absurd (e1.trans e2.symm) (hp i j l1 l2 hlt)
  · exact heq
  · exact absurd (e2.trans e1.symm) (hp j i l2 l1 hlt)
section
variable {P : Program} {Q : Exit → Act → World → Prop} {K : Act → World → Prop} {a : Act} {w : World} {o : Oper} {n : Nat} {w0 : Bs} {fs : List Sl} {bs : List Bl}
theorem St.mem (hs : St n w0 fs bs a w) : Mem w0 bs w := ⟨hs.blks, hs.apart, hs.below, hs.fz⟩
theorem Mem.lt (h : Mem w0 bs w) {i : Nat} {e : Bl} (hi : bs[i]? = some e) (h1 : e.1 = true) : e.2.1 < w.heap.size := (Array.getElem?_eq_some_iff.1 (h.blks i e hi h1).1).1
/-- the blocks chosen, in another order -/
theorem St.selB (hs : St n w0 fs bs a w) (kb : List Nat) {bs' : List Bl} (h : selL bs kb = some bs') (hnd : kb.Nodup) : St n w0 fs bs' a w := by
  have key := fun i e he => selL_get h i e he
  refine ⟨hs.size, hs.defers, hs.slots, fun i e he h1 => ?_, fun i j e e' hij he he' h1 h1' => ?_, hs.below, fun p hp => ⟨(hs.frz p hp).1, fun i e he h1 => ?_⟩, fun i e he h1 => ?_⟩
  · obtain ⟨k, _, hk⟩ := key i e he
    exact hs.blks k e hk h1
  · obtain ⟨k, h2, hk⟩ := key i e he
    obtain ⟨k', h2', hk'⟩ := key j e' he'
    exact hs.apart k k' e e' (fun e0 => hij (nd_ne hnd h2 (e0 ▸ h2'))) hk hk' h1 h1'
  · obtain ⟨k, _, hk⟩ := key i e he
    exact (hs.frz p hp).2 k e hk h1
  · refine Fz.ok_mono (fun _ _ h => h) (fun g hg _ => ⟨⟨hg.1, fun j b hj hb1 => ?_, hg.2.2⟩, rfl⟩) (hs.fz i e he h1)
    obtain ⟨k, _, hk⟩ := key j b hj
    exact hg.2.1 k b hk hb1
theorem enterX {f : FuncId} {fn : Func} {c : Code} {args : List Value} {w : World} {R : Ending → World → Prop} {n : Nat} {S : List (Bool × Fz)} {Z X : Nat → Prop} {bs : List Bl} (hf : P.funcs[f]? = some fn) (hb : fn.body = some c) (hn : fn.ntmps = n) (hle : args.length ≤ n)
    (hm : Mem ⟨w, [], S, Z, X⟩ bs w) (h : ∀ a, St n ⟨w, [], S, Z, X⟩ (idx 0 args) bs a w → c.wp P (bodyPost P fn R) a w) : Calls P f args.toArray w R := by
  refine calls_of_wp hf hb (h _ ⟨?_, rfl, ?_, hm.blks, hm.apart, hm.below, (fun p hp => nomatch hp), hm.fz⟩)
  · subst hn; simp; omega
  · intro t v h
    obtain ⟨_, h2⟩ := lk_idx args 0 t v h
    have hlt : t < args.length := (List.getElem?_eq_some_iff.1 h2).1
    rw [Array.getElem?_append_left (by simpa using hlt)]
    simpa using h2
/-- the blocks that a call takes; the blocks that it may trust -/
def Xc (w0 : Bs) (bs : List Bl) (kb ks : List Nat) (g : Nat) : Prop :=
  (∃ j b, j ∈ kb ∧ bs[j]? = some b ∧ b.1 = true ∧ b.2.1 = g) ∨ ∃ j e, j ∈ ks ∧ w0.S[j]? = some e ∧ e.1 = true ∧ e.2.owns g
def Zc (w0 : Bs) (bs : List Bl) (kb ks : List Nat) (g : Nat) : Prop :=
  (w0.Z g ∨ w0.B g) ∧ (∀ (j : Nat) (b : Bl), bs[j]? = some b → b.1 = true → j ∉ kb → b.2.1 ≠ g) ∧ ∀ (j : Nat) (e : Bool × Fz), w0.S[j]? = some e → e.1 = true → j ∉ ks → ¬ e.2.owns g
theorem St.xlt (hs : St n w0 fs bs a w) {kb ks : List Nat} {g : Nat} (h : Xc w0 bs kb ks g) : g < w.heap.size ∧ w0.B g := by
  rcases h with ⟨j, b, _, hb, h1, rfl⟩ | ⟨j, e, _, he, h1, ho⟩
  · exact ⟨hs.lt hb h1, (hs.blks j b hb h1).2⟩
  · obtain ⟨l1, _, l3⟩ := Fz.ok_lt (hs.fz j e he h1) ho
    exact ⟨l1, l3⟩
theorem St.xblk (hs : St n w0 fs bs a w) {kb ks : List Nat} {i : Nat} {e : Bl} (hi : bs[i]? = some e) (h1 : e.1 = true) (hk : i ∉ kb) : ¬ Xc w0 bs kb ks e.2.1 := by
  rintro (⟨j, b, hj, hb, hb1, hg⟩ | ⟨j, x, hj, hx, hx1, ho⟩)
  · exact hs.apart j i b e (fun h => hk (h ▸ hj)) hb hi hb1 h1 hg
  · exact (Fz.ok_lt (hs.fz j x hx hx1) ho).2.1.2.1 i e hi h1 rfl
theorem xzs {kb ks : List Nat} {i g : Nat} (hz : Zs w0 bs i g) (hk : i ∉ ks) : ¬ Xc w0 bs kb ks g := by
  rintro (⟨j, b, hj, hb, hb1, hg⟩ | ⟨j, x, hj, hx, hx1, ho⟩)
  · exact hz.2.1 j b hb hb1 hg
  · exact hz.2.2 j x (fun h => hk (h ▸ hj)) hx hx1 ho
theorem St.toMem (hs : St n w0 fs bs a w) {kb ks : List Nat} {S1 : List (Bool × Fz)} {bs1 : List Bl} (hS1 : selL w0.S ks = some S1) (hb1 : selL bs kb = some bs1) (hnd : ks.Nodup) (hndb : kb.Nodup) :
    Mem ⟨w, [], S1, Zc w0 bs kb ks, Xc w0 bs kb ks⟩ bs1 w := by
  have keyS := fun i e he => selL_get hS1 i e he
  have keyB := fun i e he => selL_get hb1 i e he
  refine ⟨fun i e he h1 => ?_, fun i j e e' hij he he' h1 h1' => ?_, BelowX.refl _ _, fun i e he h1 => ?_⟩
  · obtain ⟨k, hk, hb⟩ := keyB i e he
    exact ⟨(hs.blks k e hb h1).1, .inr (.inl ⟨k, e, List.mem_of_getElem? hk, hb, h1, rfl⟩)⟩
  · obtain ⟨k, h2, hk⟩ := keyB i e he
    obtain ⟨k', h2', hk'⟩ := keyB j e' he'
    exact hs.apart k k' e e' (fun e0 => hij (nd_ne hndb h2 (e0 ▸ h2'))) hk hk' h1 h1'
  · obtain ⟨k, hk, hS⟩ := keyS i e he
    refine Fz.ok_mono (fun g ho _ => .inr (.inr ⟨k, e, List.mem_of_getElem? hk, hS, h1, ho⟩)) (fun g hg _ => ⟨⟨.inl ⟨hg.1, fun j b hj hb1 _ => hg.2.1 j b hj hb1, fun j x hj hx hjk => ?_⟩, fun j b hj hb1 => ?_, fun j x hji hj hx => ?_⟩, rfl⟩) (hs.fz k e hS h1)
    · exact hg.2.2 j x (fun e0 => hjk (e0 ▸ List.mem_of_getElem? hk)) hj hx
    · obtain ⟨k', _, hk'⟩ := keyB j b hj
      exact hg.2.1 k' b hk' hb1
    · obtain ⟨k', h2', hk'⟩ := keyS j x hj
      exact hg.2.2 k' x (fun e0 => hji (nd_ne hnd (e0 ▸ h2') hk)) hk' hx
theorem St.ofMem (hs : St n w0 fs bs a w) (hF : w0.F = []) {kb ks : List Nat} {E1 : List (Bool × Fz)} {E2 : List Fz} {bf bf2 : List Bl} {ms : Option Nat} {w' : World} (hE1 : ks.length = E1.length) (hbf : kb.length = bf.length) (hokS : okS ms (setAll w0.S ks E1) E2.length = true)
    (hm : Mem ⟨w, [], E1 ++ E2.map (true, ·), Zc w0 bs kb ks, Xc w0 bs kb ks⟩ (bf ++ bf2) w') :
    St n (w0.withS (putS ms (setAll w0.S ks E1) E2)) fs (setAll bs kb bf ++ bf2) a w' := by
  have hsz : w0.w.heap.size ≤ w.heap.size := hs.below.size
  have keyB : ∀ (i : Nat) (x : Bl), (setAll bs kb bf ++ bf2)[i]? = some x → (∃ p, (bf ++ bf2)[p]? = some x ∧ ((p < kb.length ∧ kb[p]? = some i) ∨ (kb.length ≤ p ∧ i = bs.length + (p - kb.length)))) ∨ (bs[i]? = some x ∧ i ∉ kb) := by
    intro i x hx
    rw [List.getElem?_append, setAll_length] at hx
    split at hx
    · rcases setAll_get kb bf bs hbf i x hx with ⟨p, h2, h3⟩ | h2
      · left
        have hp := (List.getElem?_eq_some_iff.1 h2).1
        exact ⟨p, by rw [List.getElem?_append_left (by omega)]; exact h3, .inl ⟨hp, h2⟩⟩
      · exact .inr h2
    · rename_i hge
      left
      refine ⟨kb.length + (i - bs.length), ?_, .inr ⟨by omega, by omega⟩⟩
      rw [List.getElem?_append_right (by omega), hbf, Nat.add_sub_cancel_left]
      exact hx
  obtain ⟨k0, pkey⟩ := putS_get hokS
  have keyS : ∀ (i : Nat) (x : Bool × Fz), (putS ms (setAll w0.S ks E1) E2)[i]? = some x → x.1 = true → (∃ p, (E1 ++ E2.map (true, ·))[p]? = some x ∧ ((p < ks.length ∧ ks[p]? = some i) ∨ (ks.length ≤ p ∧ i = k0 + (p - ks.length)))) ∨ (w0.S[i]? = some x ∧ i ∉ ks) := by
    intro i x hx h1
    rcases pkey i x hx with ⟨hki, _, hl⟩ | ⟨hS, _⟩
    · left
      refine ⟨ks.length + (i - k0), ?_, .inr ⟨by omega, by omega⟩⟩
      rw [List.getElem?_append_right (by omega), hE1, Nat.add_sub_cancel_left, List.getElem?_map, hl]
      obtain ⟨b, e⟩ := x
      simp only at h1
      subst h1
      rfl
    · rcases setAll_get ks E1 w0.S hE1 i x hS with ⟨p, h2, h3⟩ | h2
      · left
        have hp := (List.getElem?_eq_some_iff.1 h2).1
        exact ⟨p, by rw [List.getElem?_append_left (by omega)]; exact h3, .inl ⟨hp, h2⟩⟩
      · exact .inr h2
  have upB : ∀ g, Bn w.heap.size (Xc w0 bs kb ks) g → w0.B g := by
    rintro g (h | h)
    · exact .inl (Nat.le_trans hsz h)
    · exact (hs.xlt h).2
  have newne : ∀ g g', Bn w.heap.size (Xc w0 bs kb ks) g → g' < w.heap.size → ¬ Xc w0 bs kb ks g' → g ≠ g' := by
    rintro g g' (h | h) hlt hx rfl
    · omega
    · exact hx h
  refine ⟨hs.size, hs.defers, hs.slots, fun i e he h1 => ?_, fun i j e e' hij he he' h1 h1' => ?_, ?_, (fun p hp => by rw [hF] at hp; cases hp), fun i e he h1 => ?_⟩
  · rcases keyB i e he with ⟨p, hp, _⟩ | ⟨hb, hk⟩
    · exact ⟨(hm.blks p e hp h1).1, upB _ (hm.blks p e hp h1).2⟩
    · exact ⟨(hm.below.block _ (hs.lt hb h1) (hs.xblk hb h1 hk)).trans (hs.blks i e hb h1).1, (hs.blks i e hb h1).2⟩
  · rcases keyB i e he with ⟨p, hp, h2⟩ | ⟨hb, hk⟩ <;> rcases keyB j e' he' with ⟨q, hq, h3⟩ | ⟨hb', hk'⟩
    · refine hm.apart p q e e' (fun e0 => hij ?_) hp hq h1 h1'
      subst e0
      rcases h2 with ⟨h2, h4⟩ | ⟨h2, h4⟩ <;> rcases h3 with ⟨h3, h5⟩ | ⟨h3, h5⟩
      · rw [h4] at h5; exact Option.some.inj h5
      · omega
      · omega
      · omega
    · exact newne _ _ (hm.blks p e hp h1).2 (hs.lt hb' h1') (hs.xblk hb' h1' hk')
    · exact (newne _ _ (hm.blks q e' hq h1').2 (hs.lt hb h1) (hs.xblk hb h1 hk)).symm
    · exact hs.apart i j e e' hij hb hb' h1 h1'
  · refine hs.below.trans ⟨hm.below.os, hm.below.tape, hm.below.output, hm.below.size, fun k hk hx => hm.below.block k (Nat.lt_of_lt_of_le hk hsz) fun hX => ?_⟩
    rcases (hs.xlt hX).2 with h | h
    · have h' : w0.w.heap.size ≤ k := h
      omega
    · exact hx h
  · rcases keyS i e he h1 with ⟨p, hp, hpi⟩ | ⟨hS, hk⟩
    · refine Fz.ok_mono (fun g _ h => upB g h) (fun g hg _ => ⟨⟨?_, fun j b hj hb1 => ?_, fun j x hji hj hx => ?_⟩, rfl⟩) (hm.fz p e hp h1)
      · rcases hg.1 with h | h
        · exact h.1
        · exact .inr (upB g h)
      · rcases keyB j b hj with ⟨q, hq, _⟩ | ⟨hb, hkb⟩
        · exact hg.2.1 q b hq hb1
        · rcases hg.1 with h | h
          · exact h.2.1 j b hb hb1 hkb
          · exact (newne _ _ h (hs.lt hb hb1) (hs.xblk hb hb1 hkb)).symm
      · rcases keyS j x hj hx with ⟨q, hq, hqj⟩ | ⟨hSj, hkj⟩
        · refine hg.2.2 q x (fun e0 => hji ?_) hq hx
          subst e0
          rcases hpi with ⟨h2, h3⟩ | ⟨h2, h3⟩ <;> rcases hqj with ⟨h4, h5⟩ | ⟨h4, h5⟩
          · rw [h3] at h5; exact (Option.some.inj h5).symm
          · omega
          · omega
          · omega
        · rcases hg.1 with h | h
          · exact h.2.2 j x hSj hx hkj
          · intro ho
            obtain ⟨l1, l2, _⟩ := Fz.ok_lt (hs.fz j x hSj hx) ho
            exact newne _ _ h l1 (xzs l2 hkj) rfl
    · refine Fz.ok_mono (fun _ _ h => h) (fun g hg hlt => ⟨⟨hg.1, fun j b hj hb1 => ?_, fun j x hji hj hx => ?_⟩, hm.below.block g hlt (xzs hg hk)⟩) (hs.fz i e hS h1)
      · rcases keyB j b hj with ⟨q, hq, _⟩ | ⟨hb, hkb⟩
        · exact newne _ _ (hm.blks q b hq hb1).2 hlt (xzs hg hk)
        · exact hg.2.1 j b hb hb1
      · rcases keyS j x hj hx with ⟨q, hq, hqj⟩ | ⟨hSj, _⟩
        · intro ho
          exact newne _ _ (Fz.ok_lt (hm.fz q x hq hx) ho).2.2 hlt (xzs hg hk) rfl
        · exact hg.2.2 j x hji hSj hx
/-- a call that takes blocks and entries of the caller's, and gives others in their place, and new ones -/
theorem op_callX {F : FuncId} {ρ : Type} (hs : St n w0 fs bs a w) (m ms : Option Nat) (kb ks : List Nat) {f : Operand} {xs : Array Operand} {ts : Array TypeId} {vs : List Value} {v : ρ → Value} {S1 : List (Bool × Fz)} {bs1 : List Bl} {E : ρ → List (Bool × Fz)} {E1 : ρ → List (Bool × Fz)} {E2 : ρ → List Fz} {bfA bf bf2 : ρ → List Bl} {d : Nat}
    (hF : w0.F = []) (ho : o.op = .call ⟨.value f, xs, ts⟩) (hd : o.dst = some d)
    (hf : ev fs f = some (.func (.func F) #[] #[])) (hx : evs fs xs.toList = some vs) (hcl : ∀ w, (callFunc F vs.toArray).run P w = .ok (.enter F vs.toArray) w)
    (hS1 : selL w0.S ks = some S1) (hb1 : selL bs kb = some bs1) (hnd : ks.Nodup) (hndb : kb.Nodup)
    (hc : ∀ Z X, Mem ⟨w, [], S1, Z, X⟩ bs1 w → Calls P F vs.toArray w (PostX w Z X v bfA E)) (hE : ∀ r, E r = E1 r ++ (E2 r).map (true, ·)) (hbA : ∀ r, bfA r = bf r ++ bf2 r) (hE1 : ∀ r, ks.length = (E1 r).length) (hbf : ∀ r, kb.length = (bf r).length)
    (hokS : ∀ r, okS ms (setAll w0.S ks (E1 r)) (E2 r).length = true) (hok : okf m fs d n = true)
    (h : ∀ r a' w', St n (w0.withS (putS ms (setAll w0.S ks (E1 r)) (E2 r))) (putf m fs d (v r)) (setAll bs kb (bf r) ++ bf2 r) a' w' → K a' w') : o.wp P a w K Q := by
  have hm : xs.map a.eval = vs.toArray := by
    have := hs.evs hx
    rw [← this, ← Array.toList_map]
  unfold Oper.wp execOp
  rw [ho]
  simp only [resolve, hs.ev hf, hm, Deferred.ofValue, Sem.run_bind, Sem.run_pure, Result.andThen_ok, invoke, Array.empty_append, Array.append_empty, hcl, Oper.upon_enter, hd]
  refine (hc _ _ (hs.toMem hS1 hb1 hnd hndb)).mono ?_
  rintro e w' ⟨r, rfl, hL⟩
  rw [hE, hbA] at hL
  exact h _ _ _ ((hs.ofMem hF (hE1 r) (hbf r) (hokS r) hL).put hok _)
theorem op_callX0 {F : FuncId} {ρ : Type} (hs : St n w0 fs bs a w) (ms : Option Nat) (kb ks : List Nat) {f : Operand} {xs : Array Operand} {ts : Array TypeId} {vs : List Value} {v : ρ → Value} {S1 : List (Bool × Fz)} {bs1 : List Bl} {E : ρ → List (Bool × Fz)} {E1 : ρ → List (Bool × Fz)} {E2 : ρ → List Fz} {bfA bf bf2 : ρ → List Bl}
    (hF : w0.F = []) (ho : o.op = .call ⟨.value f, xs, ts⟩) (hd : o.dst = none)
    (hf : ev fs f = some (.func (.func F) #[] #[])) (hx : evs fs xs.toList = some vs) (hcl : ∀ w, (callFunc F vs.toArray).run P w = .ok (.enter F vs.toArray) w)
    (hS1 : selL w0.S ks = some S1) (hb1 : selL bs kb = some bs1) (hnd : ks.Nodup) (hndb : kb.Nodup)
    (hc : ∀ Z X, Mem ⟨w, [], S1, Z, X⟩ bs1 w → Calls P F vs.toArray w (PostX w Z X v bfA E)) (hE : ∀ r, E r = E1 r ++ (E2 r).map (true, ·)) (hbA : ∀ r, bfA r = bf r ++ bf2 r) (hE1 : ∀ r, ks.length = (E1 r).length) (hbf : ∀ r, kb.length = (bf r).length)
    (hokS : ∀ r, okS ms (setAll w0.S ks (E1 r)) (E2 r).length = true)
    (h : ∀ r w', St n (w0.withS (putS ms (setAll w0.S ks (E1 r)) (E2 r))) fs (setAll bs kb (bf r) ++ bf2 r) a w' → K a w') : o.wp P a w K Q := by
  have hm : xs.map a.eval = vs.toArray := by
    have := hs.evs hx
    rw [← this, ← Array.toList_map]
  unfold Oper.wp execOp
  rw [ho]
  simp only [resolve, hs.ev hf, hm, Deferred.ofValue, Sem.run_bind, Sem.run_pure, Result.andThen_ok, invoke, Array.empty_append, Array.append_empty, hcl, Oper.upon_enter, hd]
  refine (hc _ _ (hs.toMem hS1 hb1 hnd hndb)).mono ?_
  rintro e w' ⟨r, rfl, hL⟩
  rw [hE, hbA] at hL
  exact h _ _ (hs.ofMem hF (hE1 r) (hbf r) (hokS r) hL)
/-- a call that only looks, and hands back nothing that lies in memory: whatever the caller has may be looked at -/
theorem op_callU {F : FuncId} {ρ : Type} (hs : St n w0 fs bs a w) (m : Option Nat) {f : Operand} {xs : Array Operand} {ts : Array TypeId} {vs : List Value} {v : ρ → Value} {d : Nat} (ho : o.op = .call ⟨.value f, xs, ts⟩) (hd : o.dst = some d)
    (hf : ev fs f = some (.func (.func F) #[] #[])) (hx : evs fs xs.toList = some vs) (hcl : ∀ w, (callFunc F vs.toArray).run P w = .ok (.enter F vs.toArray) w)
    (hc : St n w0 fs bs a w → Calls P F vs.toArray w (Ret w (fun _ => True) v fun _ => [])) (hok : okf m fs d n = true)
    (h : ∀ r a' w', St n w0 (putf m fs d (v r)) bs a' w' → K a' w') : o.wp P a w K Q := by
  have hm : xs.map a.eval = vs.toArray := by
    have := hs.evs hx
    rw [← this, ← Array.toList_map]
  unfold Oper.wp execOp
  rw [ho]
  simp only [resolve, hs.ev hf, hm, Deferred.ofValue, Sem.run_bind, Sem.run_pure, Result.andThen_ok, invoke, Array.empty_append, Array.append_empty, hcl, Oper.upon_enter, hd]
  refine (hc hs).mono ?_
  rintro e w' ⟨r, rfl, hb, _⟩
  exact h _ _ _ ((hs.grow hb).put hok _)
/-- what an entry says, where nobody asks where it lies -/
theorem CelV.tru {Z : Nat → Prop} {v : Value} {N : Nat} {cs : List Value} (h : CelV w Z v N cs) : CelV w (fun _ => True) v N cs := h.any fun _ _ => trivial
theorem St.rowB (hs : St n w0 fs bs a w) {k : Nat} {G : Nat → Prop} {vs : List Value} {ls : List (List UInt8)} (h : w0.S[k]? = some (true, .bysO G vs ls) ∨ w0.S[k]? = some (true, .bys vs ls)) : BysV w (fun _ => True) vs ls := by
  rcases h with h | h
  · exact BysV.mono (hs.fz k _ h rfl).1 fun _ _ _ => ⟨trivial, rfl⟩
  · exact BysV.mono (hs.fz k _ h rfl) fun _ _ _ => ⟨trivial, rfl⟩
/-- a list of one's own -/
theorem St.nilBysO (hs : St n w0 fs bs a w) (m : Option Nat) (hok : okS m w0.S 1 = true) : St n (w0.withS (putS m w0.S [.bysO noX [] []])) fs bs a w :=
  hs.pushS m hok (okl1 ⟨⟨rfl, fun i v l h => by simp at h⟩, fun g hg => hg.elim⟩)
theorem okl1z {w : World} {Z : Nat → Prop} {B : Nat → Prop} {e : Fz} (h : e.ok w (fun g => Z g ∨ B g) B) : OkL w Z B [e] := by
  intro i e' he
  cases i with
  | zero =>
    obtain rfl : e = e' := by simpa using he
    exact Fz.ok_mono (fun _ _ h => h) (fun g hg _ => ⟨⟨hg, fun j e' hj he' => by
      cases j with
      | zero => exact absurd rfl hj
      | succ j => simp at he'⟩, rfl⟩) h
  | succ i => simp at he
theorem okl_own0 {w : World} {Z B : Nat → Prop} {E : TypeId} {size : Nat} : OkL w Z B [.own (.slice none 0 0) E size 0 []] := okl1 ⟨World.ownsRow_nil w _ E size, fun g hg => by cases hg⟩
theorem okl_nilO {w : World} {Z B : Nat → Prop} {E : TypeId} {l : List UInt8} (h : l = []) : OkL w Z B [.own (.slice none l.length 0) E 1 l.length (bcs l)] := by
  subst h; exact okl_own0
theorem okl2 {w : World} {Z B : Nat → Prop} {e e' : Fz} (h : e.ok w (fun g => (Z g ∨ B g) ∧ ¬ e'.owns g) B) (h' : e'.ok w (fun g => (Z g ∨ B g) ∧ ¬ e.owns g) B) : OkL w Z B [e, e'] := by
  intro i x hx
  match i, hx with
  | 0, hx =>
    obtain rfl : e = x := by simpa using hx
    refine Fz.ok_mono (fun _ _ h => h) (fun g hg _ => ⟨⟨hg.1, fun j y hj hy => ?_⟩, rfl⟩) h
    match j, hj, hy with
    | 0, hj, _ => exact absurd rfl hj
    | 1, _, hy => obtain rfl : e' = y := by simpa using hy
                  exact hg.2
    | j + 2, _, hy => simp at hy
  | 1, hx =>
    obtain rfl : e' = x := by simpa using hx
    refine Fz.ok_mono (fun _ _ h => h) (fun g hg _ => ⟨⟨hg.1, fun j y hj hy => ?_⟩, rfl⟩) h'
    match j, hj, hy with
    | 0, _, hy => obtain rfl : e = y := by simpa using hy
                  exact hg.2
    | 1, hj, _ => exact absurd rfl hj
    | j + 2, _, hy => simp at hy
  | i + 2, hx => simp at hx
theorem ok_nilRow {w : World} {Z B : Nat → Prop} {E : TypeId} {size : Nat} : Fz.ok w Z B (.own (.slice none 0 0) E size 0 []) := ⟨World.ownsRow_nil w _ E size, fun g hg => by cases hg⟩
theorem ok_nilBysO {w : World} {Z B : Nat → Prop} : Fz.ok w Z B (.bysO noX [] []) := ⟨⟨rfl, fun i v l h => by simp at h⟩, fun g hg => hg.elim⟩
/-- a list of one's own grows by a row of one's own -/
def GU (G : Nat → Prop) (v : Value) (g : Nat) : Prop := G g ∨ v.ownBlock = some g
theorem St.snocOwn (hs : St n w0 fs bs a w) (k kp : Nat) {G : Nat → Prop} {vs : List Value} {ls ls' : List (List UInt8)} {v : Value} {E : TypeId} {l : List UInt8} (h : w0.S[k]? = some (true, .bysO G vs ls)) (hp : w0.S[kp]? = some (true, .own v E 1 l.length (bcs l))) (hl : ls ++ [l] = ls') :
    St n (w0.withS ((w0.S.set k (true, .bysO (GU G v) (vs ++ [v]) ls')).set kp (false, .bys [] []))) fs bs a w := by
  subst hl
  have hkk : k ≠ kp := fun e => by subst e; rw [h] at hp; cases hp
  have key : ∀ (i : Nat) (x : Bool × Fz), ((w0.S.set k (true, .bysO (GU G v) (vs ++ [v]) (ls ++ [l]))).set kp (false, .bys [] []))[i]? = some x → x.1 = true → (i = k ∧ x = (true, .bysO (GU G v) (vs ++ [v]) (ls ++ [l]))) ∨ (i ≠ k ∧ i ≠ kp ∧ w0.S[i]? = some x) := by
    intro i x hx h1
    rw [List.getElem?_set] at hx
    split at hx
    · split at hx
      · obtain rfl := Option.some.inj hx
        cases h1
      · cases hx
    · rename_i hikp
      rw [List.getElem?_set] at hx
      split at hx
      · rename_i hik
        split at hx
        · exact .inl ⟨hik.symm, by simpa using hx.symm⟩
        · cases hx
      · rename_i hik; exact .inr ⟨fun e => hik e.symm, fun e => hikp e.symm, hx⟩
  have h1 := hs.fz k _ h rfl
  have h2 := hs.fz kp _ hp rfl
  refine ⟨hs.size, hs.defers, hs.slots, hs.blks, hs.apart, hs.below, hs.frz, fun i x hx hx1 => ?_⟩
  rcases key i x hx hx1 with ⟨rfl, rfl⟩ | ⟨hik, hikp, hS⟩
  · refine ⟨bysv_snoc (h1.1.mono fun g hg _ => ⟨.inl hg, rfl⟩) (own_cel h2.1 fun g hg => .inr hg), fun g hg => ?_⟩
    have fin : ∀ j0, (j0 = i ∨ j0 = kp) → Zs w0 bs j0 g → Zs (w0.withS ((w0.S.set i (true, .bysO (GU G v) (vs ++ [v]) (ls ++ [l]))).set kp (false, .bys [] []))) bs i g := fun j0 hj0 hz => ⟨hz.1, hz.2.1, fun j y hji hj hy ho => by
      rcases key j y hj hy with ⟨e, _⟩ | ⟨e1, e2, h3⟩
      · exact hji e
      · exact hz.2.2 j y (by rcases hj0 with rfl | rfl <;> assumption) h3 hy ho⟩
    rcases hg with hg | hg
    · obtain ⟨b1, b2, b3⟩ := h1.2 g hg
      exact ⟨b1, fin i (.inl rfl) b2, b3⟩
    · obtain ⟨b2, b1⟩ := h2.2 g hg
      refine ⟨b1, fin kp (.inr rfl) b2, ?_⟩
      rcases h2.1.2 with ⟨rfl, _⟩ | ⟨g', cap, cur, rfl, _, hh, _⟩
      · cases hg
      · have : g' = g := by simpa [Value.ownBlock] using hg
        subst this
        exact ⟨cur, E, hh⟩
  · refine Fz.ok_mono (fun _ _ h => h) (fun g hg _ => ⟨⟨hg.1, hg.2.1, fun j y hji hj hy ho => ?_⟩, rfl⟩) (hs.fz i x hS hx1)
    rcases key j y hj hy with ⟨rfl, rfl⟩ | ⟨_, _, h3⟩
    · rcases ho with ho | ho
      · exact hg.2.2 j _ hji h rfl ho
      · exact hg.2.2 kp _ (fun e => hikp e.symm) hp rfl ho
    · exact hg.2.2 j y hji h3 hy ho
/-- a list of one's own that is no longer written -/
theorem St.freezeB (hs : St n w0 fs bs a w) (k : Nat) {G : Nat → Prop} {vs : List Value} {ls : List (List UInt8)} (h : w0.S[k]? = some (true, .bysO G vs ls)) : St n (w0.withS (w0.S.set k (true, .bys vs ls))) fs bs a w :=
  hs.conS k h (fun Z hz => hz.1.mono fun g hg _ => ⟨(hz.2 g hg).2.1, rfl⟩) (fun g hg => by cases hg)
/-- its bytes are forgotten -/
theorem St.toWrs (hs : St n w0 fs bs a w) (k : Nat) {G : Nat → Prop} {vs : List Value} {ls : List (List UInt8)} (h : w0.S[k]? = some (true, .bysO G vs ls)) : St n (w0.withS (w0.S.set k (true, .wrs G vs (ls.map List.length)))) fs bs a w := by
  refine hs.conS k h (fun Z hz => ⟨⟨by simpa using hz.1.1, fun i v n hv hn => ?_⟩, hz.2⟩) (fun g hg => hg)
  rw [List.getElem?_map, Option.map_eq_some_iff] at hn
  obtain ⟨l, hl, rfl⟩ := hn
  obtain ⟨ad, c, e, h1, h2, h3, h4⟩ := hz.1.2 i v l hv hl
  refine ⟨ad, c, e, h1, h2, h3, fun j hj => ?_⟩
  obtain ⟨g, off, e2, hg, hc⟩ := h4 j _ (bcs_get hj)
  exact ⟨g, off, _, e2, hg, hc⟩
theorem St.wrs_at (hs : St n w0 fs bs a w) {k : Nat} {G : Nat → Prop} {vs : List Value} {ns : List Nat} (h : w0.S[k]? = some (true, .wrs G vs ns)) {i N : Nat} (hn : ns[i]? = some N) : ∃ ad c, vs[i]? = some (.slice ad N c) := by
  have h1 := (hs.fz k _ h rfl).1
  have hi : i < vs.length := by rw [h1.1]; exact (List.getElem?_eq_some_iff.1 hn).1
  obtain ⟨ad, c, e, _⟩ := h1.2 i vs[i] N (by simp [hi]) hn
  exact ⟨ad, c, by simp [hi, e]⟩
/-- an index into a slice whose bytes are not known -/
theorem op_idxW (hs : St n w0 fs bs a w) (m : Option Nat) (k i : Nat) {G : Nat → Prop} {vs : List Value} {ns : List Nat} {T E : TypeId} {x y : Operand} {ad : Option Addr} {N c : Nat} {κ : IntKind} {j : Nat} {d : Nat} (ho : o.op = .indexAddr T x y) (hd : o.dst = some d) (hx : ev fs x = some (.slice ad N c)) (hy : ev fs y = some (.int κ (j : Int)))
    (hk : w0.S[k]? = some (true, .wrs G vs ns)) (hv : vs[i]? = some (.slice ad N c)) (hn : ns[i]? = some N) (hu : P.underlying T = some (.slice E)) (hz : ∀ w, (sizeOf E).run P w = .ok 1 w) (hj : j < N) (hok : okf m fs d n = true)
    (h : ∀ a', St n w0 (putf m fs d (vidx (.slice ad N c) j)) bs a' w → K a' w) : o.wp P a w K Q := by
  obtain ⟨ad', c', e, h1, h2, h3, h4⟩ := (hs.fz k _ hk rfl).1.2 i _ _ hv hn
  obtain ⟨g, off, u, rfl, _, _⟩ := h4 j hj
  refine op_val hs m hd hok ?_ h
  unfold execOp
  rw [ho]
  obtain ⟨rfl, rfl⟩ : ad = some ⟨g, off, none⟩ ∧ c = c' := by simpa using e
  have h1' : (0 : Int) ≤ (j : Int) ∧ (j : Int) < (N : Int) := ⟨by omega, by omega⟩
  simp [hs.ev hx, hs.ev hy, Instr.indexAt, asIntOf, Sem.run_bind, run_underlying hu, Result.andThen, hz, h1', hj, vidx]
theorem op_storeW (hs : St n w0 fs bs a w) (k i : Nat) {G : Nat → Prop} {vs : List Value} {ns : List Nat} {t : TypeId} {x y : Operand} {ad : Option Addr} {N c j : Nat} {u : Value} (hF : w0.F = []) (ho : o.op = .store t x y) (hd : o.dst = none)
    (hx : ev fs x = some (vidx (.slice ad N c) j)) (hy : ev fs y = some u) (hk : w0.S[k]? = some (true, .wrs G vs ns)) (hv : vs[i]? = some (.slice ad N c)) (hn : ns[i]? = some N) (hj : j < N) (hz : ∀ w, (sizeOf t).run P w = .ok 1 w) (hu : u.cells = #[u]) (h1 : u.oneCell' = true)
    (h : ∀ w', St n w0 fs bs a w' → K a w') : o.wp P a w K Q := by
  have hok := hs.fz k _ hk rfl
  obtain ⟨ad', c', e, hN, hm, hn0, hcell⟩ := hok.1.2 i _ _ hv hn
  obtain ⟨g, off, u0, rfl, hG, hc0⟩ := hcell j hj
  obtain ⟨rfl, rfl⟩ : ad = some ⟨g, off, none⟩ ∧ c = c' := by simpa using e
  obtain ⟨hB, hZ, cur, T, hblk⟩ := hok.2 g hG
  have hx' : a.eval x = .pointer (some ⟨g, off + j, none⟩) := by rw [hs.ev hx]; simp [vidx, Addr.add_mid]
  have hrun : (Instr.storeAt t (.pointer (some ⟨g, off + j, none⟩)) u).run P w = .ok () (w.setCells g (off + j) [u]) := by
    have := run_storeCells_cells (P := P) g (off + j) [u] 0 w (fun q hq => by
      have : q = 0 := by simpa using hq
      subst this
      simp only [Nat.add_zero]; rw [hc0]; rfl) (fun q hq => frozen_of_row w g _ _ T hblk) (fun v hv => by obtain rfl := List.mem_singleton.1 hv; exact h1)
    simp only [Nat.add_zero] at this
    simp only [Instr.storeAt, Instr.sureAddr, Sem.run_bind, Sem.run_pure, Result.andThen_ok, storeVar, hz, hu]
    simpa using this
  have hcells : ∀ p, w.cell? p ≠ none → (w.setCells g (off + j) [u]).cell? p ≠ none := by
    intro p hp
    by_cases hpe : p.block = g
    · obtain ⟨pb, po, ps⟩ := p
      simp only at hpe
      subst hpe
      cases hq : w.cell? ⟨pb, po, ps⟩ with
      | none => exact absurd hq hp
      | some z =>
        have hsp : ps = none := World.cell?_spot hq
        subst hsp
        have e1 := heap_setCells_at pb T [u] (off + j) w cur.toList (by simpa using hblk)
        rw [cell_of_row _ pb po _ T _ e1]
        rw [cell_of_row w pb po cur T _ hblk] at hq
        have : po < cur.size := (Array.getElem?_eq_some_iff.1 hq).1
        simp [wr_length, this]
    · rw [World.cell?_of_block (w := w) (heap_setCells_far g p.block hpe [u] (off + j) w)]
      exact hp
  unfold Oper.wp execOp
  rw [ho]
  simp only [hx', hs.ev hy, Sem.run_bind, hrun, Result.andThen_ok, Sem.run_pure, Oper.upon_skip, hd]
  obtain ⟨r1, r2, r3, r4⟩ := setCells_rest g [u] (off + j) w
  refine h _ ⟨hs.size, hs.defers, hs.slots, fun q e he he1 => ?_, hs.apart, ?_, (fun p hp => by rw [hF] at hp; cases hp), fun q e he he1 => ?_⟩
  · have hne : e.2.1 ≠ g := hZ.2.1 q e he he1
    exact ⟨(heap_setCells_far g _ hne _ _ w).trans (hs.blks q e he he1).1, (hs.blks q e he he1).2⟩
  · refine hs.below.trans ⟨r1, r2, r3, by rw [r4]; exact Nat.le_refl _, fun p hp hpx => heap_setCells_far g p (fun e => ?_) _ _ w⟩
    subst e
    rcases hB with hB | hB
    · have h' : w0.w.heap.size ≤ p := hB
      omega
    · exact hpx hB
  · by_cases hqk : q = k
    · subst hqk
      rw [hk] at he
      obtain rfl := Option.some.inj he
      refine ⟨⟨hok.1.1, fun i' v' n' hv' hn' => ?_⟩, fun g' hg' => ?_⟩
      · obtain ⟨ad, c, e, k1, k2, k3, k4⟩ := hok.1.2 i' v' n' hv' hn'
        refine ⟨ad, c, e, k1, k2, k3, fun j' hj' => ?_⟩
        obtain ⟨g', off', u', e2, hg', hc'⟩ := k4 j' hj'
        cases hq : (w.setCells g (off + j) [u]).cell? ⟨g', off' + j', none⟩ with
        | none => exact absurd hq (hcells _ (by rw [hc']; simp))
        | some z => exact ⟨g', off', z, e2, hg', hq⟩
      · obtain ⟨b1, b2, cur', T', b3⟩ := hok.2 g' hg'
        refine ⟨b1, b2, ?_⟩
        by_cases hgg : g' = g
        · subst hgg
          exact ⟨_, _, heap_setCells_at g' T [u] (off + j) w cur.toList (by simpa using hblk)⟩
        · exact ⟨cur', T', (heap_setCells_far g g' hgg _ _ w).trans b3⟩
    · refine Fz.ok_mono (fun _ _ h => h) (fun g' hg' _ => ⟨hg', heap_setCells_far g g' (fun e => ?_) _ _ w⟩) (hs.fz q e he he1)
      subst e
      exact hg'.2.2 k _ (fun e => hqk e.symm) hk rfl hG
end
end Go.Proofs.Ytejbajgpiecjcaa

/- More operations: bits of numbers, pointers, parts of rows with a room of their own, stores into rows of one's own, rows of integers beside the blocks. -/
namespace Go.Proofs.Ytejbajgpiecjcaa
open Go.RowKit
section
variable {P : Program} {k : IntKind} {T : TypeId} {x y z : Nat}
theorem bin_xorN (h : x ^^^ y = z) (hx : x < 2 ^ k.bits) (hy : y < 2 ^ k.bits) (hb : z < lid k) (w : World) : (binOp .xor T (.int k (x : Int)) (.int k (y : Int))).run P w = .ok (.int k (z : Int)) w := by
  have e : ((BitVec.ofInt k.bits (x : Int)) ^^^ (BitVec.ofInt k.bits (y : Int))).toNat = z := by
    rw [BitVec.toNat_xor, ofInt_nat _ _ hx, ofInt_nat _ _ hy, h]
  simp only [binOp, Op.intBits, e, wrapN hb]
  simp
theorem bin_shlZ {yk : IntKind} (h : x * 2 ^ y = z) (hy : y ≤ k.bits) (hb : z < lid k) (w : World) : (binOp .shl T (.int k (x : Int)) (.int yk (y : Int))).run P w = .ok (.int k (z : Int)) w := by
  have e : k.wrap ((x : Int) * 2 ^ (min y k.bits)) = (z : Int) := by
    rw [Nat.min_eq_left hy]
    have e1 : (x : Int) * 2 ^ y = ((x * 2 ^ y : Nat) : Int) := by simp
    rw [e1, h, wrapN hb]
  have hn : ¬ ((y : Int) < 0) := by omega
  simp [binOp, Op.shift, hn, e]
theorem un_not32 (hx : x < 4294967296) (w : World) : (Op.unary .xor (.int .u32 (x : Int))).run P w = .ok (.int .u32 ((4294967295 - x : Nat) : Int)) w := by
  have e1 : (BitVec.ofInt IntKind.u32.bits (IntKind.u32.max) ^^^ BitVec.ofInt IntKind.u32.bits (x : Int)).toNat = 4294967295 - x := by
    show (BitVec.ofInt 32 (IntKind.u32.max) ^^^ BitVec.ofInt 32 (x : Int)).toNat = 4294967295 - x
    have hm : BitVec.ofInt 32 (IntKind.u32.max) = BitVec.allOnes 32 := by decide
    rw [hm, BitVec.allOnes_xor, BitVec.toNat_not, ofInt_nat _ _ hx]
  have e2 : IntKind.u32.wrap (((4294967295 - x : Nat) : Int)) = ((4294967295 - x : Nat) : Int) := wrapN (by simp only [lid]; omega)
  simp only [Op.unary, Op.intBits, show IntKind.u32.signed = false from rfl, Bool.false_eq_true, if_false, e1, e2]
  rfl
theorem bin_subI {x y z : Int} (h : x - y = z) (h1 : -9223372036854775808 ≤ z) (h2 : z < 9223372036854775808) (w : World) : (binOp .sub T (.int .i64 x) (.int .i64 y)).run P w = .ok (.int .i64 z) w := by
  have e : IntKind.i64.wrap (x - y) = z := by rw [h]; simp [IntKind.wrap, IntKind.bits, IntKind.signed]; omega
  simp [binOp, Op.intArith, e]
theorem bin_addI {x y z : Int} (h : x + y = z) (h1 : -9223372036854775808 ≤ z) (h2 : z < 9223372036854775808) (w : World) : (binOp .add T (.int .i64 x) (.int .i64 y)).run P w = .ok (.int .i64 z) w := by
  have e : IntKind.i64.wrap (x + y) = z := by rw [h]; simp [IntKind.wrap, IntKind.bits, IntKind.signed]; omega
  simp [binOp, Op.intArith, e]
/-- a number below nought, as one without a sign -/
theorem conv_neg64 {S D : TypeId} {n : Nat} (hs : P.underlying S = some (.int .i64)) (hd : P.underlying D = some (.int .u64)) (h1 : 0 < n) (h2 : n ≤ 9223372036854775808) (w : World) : (convert S D (.int .i64 (-(n : Int)))).run P w = .ok (.int .u64 ((18446744073709551616 - n : Nat) : Int)) w := by
  have e : IntKind.u64.wrap (-(n : Int)) = ((18446744073709551616 - n : Nat) : Int) := by simp [IntKind.wrap, IntKind.bits, IntKind.signed]; omega
  simp [convert, run_underlying hs, run_underlying hd, Sem.run_bind, Result.andThen, Conv.intToInt, e]
theorem and31 {n : Nat} (h1 : 0 < n) (h2 : n < 32) : (18446744073709551616 - n) &&& 31 = 32 - n := by
  rw [show (31 : Nat) = 2 ^ 5 - 1 from rfl, Nat.and_two_pow_sub_one_eq_mod]
  omega
theorem bin_eqlP0 {p : Addr} {T E : TypeId} (hu : P.underlying T = some (.pointer E)) (w : World) : (binOp .eql T (.pointer (some p)) (.pointer none)).run P w = .ok (.bool false) w := by
  have h0 : ∀ d, (Op.equalIn (d + 1) T (.pointer (some p)) (.pointer none)).run P w = .ok false w := by
    intro d
    simp [Op.equalIn, run_underlying hu]
  have h := h0 9999
  simp only [binOp, Sem.run_bind, Op.equal, Op.maxDepth]
  rw [h]
  rfl
end
section
variable {P : Program} {Q : Exit → Act → World → Prop} {K : Act → World → Prop} {a : Act} {w : World} {o : Oper} {n : Nat} {w0 : Bs} {fs : List Sl} {bs : List Bl}
theorem op_nilCheck (hs : St n w0 fs bs a w) (m : Option Nat) {x : Operand} {p : Addr} {d : Nat} (ho : o.op = .nilCheck x) (hd : o.dst = some d) (hx : ev fs x = some (.pointer (some p))) (hok : okf m fs d n = true)
    (h : ∀ a', St n w0 (putf m fs d (.pointer (some p))) bs a' w → K a' w) : o.wp P a w K Q :=
  op_val hs m hd hok (by unfold execOp; rw [ho]; simp only [hs.ev hx]; rfl) h
/-- a part of a row, with a room of its own -/
theorem op_slice3 (hs : St n w0 fs bs a w) (m ms : Option Nat) (k i h c2 : Nat) {T E : TypeId} {x : Operand} {lo : Option Operand} {hi mx : Operand} {κ κ' : IntKind} {ad : Option Addr} {N c z : Nat} {cs : List Value} {d : Nat} (ho : o.op = .slice T x lo (some hi) (some mx)) (hd : o.dst = some d) (hx : ev fs x = some (.slice ad N c))
    (hk : w0.S[k]? = some (true, .cel (.slice ad N c) N cs)) (hlo : lo = none ∧ i = 0 ∨ ∃ y κ, lo = some y ∧ ev fs y = some (.int κ (i : Int))) (hhi : ev fs hi = some (.int κ (h : Int))) (hmx : ev fs mx = some (.int κ' (c2 : Int)))
    (hu : P.underlying T = some (.slice E)) (hz : ∀ w, (sizeOf E).run P w = .ok z w) (h1 : i ≤ h) (h2 : h ≤ N) (h3 : h ≤ c2) (h4 : c2 ≤ N) (hokS : okS ms w0.S 1 = true) (hok : okf m fs d n = true)
    (hK : ∀ a', St n (w0.withS (putS ms w0.S [.cel (.slice (vsa ad c2 z i) (h - i) (c2 - i)) (h - i) ((cs.drop (i * z)).take ((h - i) * z))])) (putf m fs d (.slice (vsa ad c2 z i) (h - i) (c2 - i))) bs a' w → K a' w) : o.wp P a w K Q := by
  have hall := hs.all hk rfl
  have hpart : CelV w (Zall w0 bs) (.slice (vsa ad c2 z i) (h - i) (c2 - i)) (h - i) ((cs.drop (i * z)).take ((h - i) * z)) := by
    obtain ⟨ad', c', e, hN, hc, hn, hcs⟩ := hall
    obtain ⟨rfl, rfl⟩ : ad = ad' ∧ c = c' := by simpa using e
    refine ⟨_, _, rfl, by omega, by omega, ?_, fun j u hu => ?_⟩
    · intro h0
      unfold vsa at h0
      split at h0
      · have := hn h0; omega
      · cases ad with
        | none => have := hn rfl; omega
        | some _ => cases h0
    · rw [List.getElem?_take] at hu
      split at hu
      · rename_i hj
        rw [List.getElem?_drop] at hu
        obtain ⟨g, off, rfl, hg, hcell⟩ := hcs _ u hu
        have hne : ¬ c2 = i := by
          intro hci
          have : h - i = 0 := by omega
          rw [this, Nat.zero_mul] at hj
          omega
        refine ⟨g, off + i * z, ?_, hg, ?_⟩
        · unfold vsa; rw [if_neg hne]; simp [Addr.add_mid]
        · rw [Nat.add_assoc]; exact hcell
      · cases hu
  have hc : N ≤ c := by
    obtain ⟨ad', c', e, hN, _⟩ := hall
    obtain ⟨rfl, rfl⟩ : ad = ad' ∧ c = c' := by simpa using e
    exact hN
  have hs' := hs.pushS ms (L := [.cel (.slice (vsa ad c2 z i) (h - i) (c2 - i)) (h - i) ((cs.drop (i * z)).take ((h - i) * z))]) hokS (okl1 hpart)
  refine op_val hs' m hd hok ?_ hK
  unfold execOp
  rw [ho]
  have e1 : (0 : Int) ≤ (h : Int) ∧ (h : Int) ≤ (c2 : Int) := ⟨by omega, by omega⟩
  have e2 : (0 : Int) ≤ (i : Int) ∧ (i : Int) ≤ (h : Int) := ⟨by omega, by omega⟩
  have e3 : (0 : Int) ≤ (c2 : Int) ∧ (c2 : Int) ≤ (c : Int) := ⟨by omega, by omega⟩
  have e4 : c2 ≤ c := by omega
  have e5 : h ≤ c2 := h3
  rcases hlo with ⟨rfl, rfl⟩ | ⟨y, κ2, rfl, hy⟩
  · simp [hs.ev hx, hs.ev hhi, hs.ev hmx, Instr.sliceAt, Instr.slice, Instr.sliceBounds, Instr.sliceBound, asIntOf, Sem.run_bind, run_underlying hu, Result.andThen, hz, e1, e3, e4, e5, vsa]
  · simp [hs.ev hx, hs.ev hhi, hs.ev hmx, hs.ev hy, Instr.sliceAt, Instr.slice, Instr.sliceBounds, Instr.sliceBound, asIntOf, Sem.run_bind, run_underlying hu, Result.andThen, hz, e1, e2, e3, e4, e5, h1, vsa]
theorem op_slice3B (hs : St n w0 fs bs a w) (m ms : Option Nat) (k N : Nat) {T E : TypeId} {x : Operand} {hi mx : Operand} {κ κ' : IntKind} {ad : Option Addr} {c : Nat} {l : List UInt8} {d : Nat} (ho : o.op = .slice T x none (some hi) (some mx)) (hd : o.dst = some d) (hx : ev fs x = some (.slice ad N c))
    (hk : w0.S[k]? = some (true, .cel (.slice ad N c) N (bcs l))) (hhi : ev fs hi = some (.int κ (N : Int))) (hmx : ev fs mx = some (.int κ' (N : Int)))
    (hu : P.underlying T = some (.slice E)) (hz : ∀ w, (sizeOf E).run P w = .ok 1 w) (hokS : okS ms w0.S 1 = true) (hok : okf m fs d n = true) (hN : N = l.length)
    (hK : ∀ a', St n (w0.withS (putS ms w0.S [.cel (.slice (vsa ad N 1 0) (N - 0) (N - 0)) (N - 0) (bcs l)])) (putf m fs d (.slice (vsa ad N 1 0) (N - 0) (N - 0))) bs a' w → K a' w) : o.wp P a w K Q := by
  refine op_slice3 hs m ms k 0 N N ho hd hx hk (.inl ⟨rfl, rfl⟩) hhi hmx hu hz (Nat.zero_le _) (Nat.le_refl _) (Nat.le_refl _) (Nat.le_refl _) hokS hok ?_
  have e : ((bcs l).drop (0 * 1)).take ((N - 0) * 1) = bcs l := by
    rw [bcs_part, hN]; simp
  rw [e]
  exact hK
/-- append onto a row that has no room: a new one, or the row itself -/
theorem op_appF (hs : St n w0 fs bs a w) (m ms : Option Nat) (k k2 : Nat) {x y : Operand} {T E : TypeId} {z : Value} {size bytes N M c2 : Nat} {ad ad2 : Option Addr} {xs cs : List Value} {d : Nat}
    (ho : o.op = .call ⟨.builtin .append, #[x, y], #[T, T]⟩) (hd : o.dst = some d) (hx : ev fs x = some (.slice ad N N)) (hy : ev fs y = some (.slice ad2 M c2)) (hk : w0.S[k]? = some (true, .cel (.slice ad N N) N xs)) (hk2 : rowAt w0.S k2 = some (.slice ad2 M c2, M, cs))
    (hu : P.underlying T = some (.slice E)) (hi : Inf P E z size bytes) (hzs : z.cells.size = size) (hs0 : 0 < size) (hxl : xs.length = N * size) (hcl : cs.length = M * size) (h1 : ∀ u ∈ cs, u.oneCell' = true) (hby : bytes ≤ 64) (hl : N + M ≤ 1000000) {N' : Nat} {ys : List Value} (hN : N + M = N') (hys : xs ++ cs = ys) (hokS : okS ms w0.S 1 = true) (hok : okf m fs d n = true)
    (h : ∀ a' c' act w', St n (w0.withS (putS ms w0.S [.cel (.slice a' N' c') N' ys])) (putf m fs d (.slice a' N' c')) bs act w' → K act w') : o.wp P a w K Q := by
  subst hN; subst hys
  obtain ⟨i, hi, hz, hs1, hb1⟩ := hi
  subst hs1
  have hmax : (1000001 : Nat) ≤ maxLen := by decide
  have hall := hs.all hk rfl
  obtain ⟨ad', c', e, _, hcm, hn0, hcells⟩ := hall
  obtain ⟨rfl, rfl⟩ : ad = ad' ∧ N = c' := by simpa using e
  have hm : (#[x, y] : Array Operand).map a.eval = #[.slice ad N N, .slice ad2 M c2] := by simp [hs.ev hx, hs.ev hy]
  obtain ⟨ad2', c2', e2, _, hcm2, hn2, hcells2⟩ := hs.row hk2
  obtain ⟨rfl, rfl⟩ : ad2 = ad2' ∧ c2 = c2' := by simpa using e2
  have hnews : ∀ p, ad2 = some p → ∀ (j : Nat) (u : Value), cs[j]? = some u → w.cell? (p.add j) = some u := by
    intro p hp j u hu
    obtain ⟨g, off, e3, _, hc⟩ := hcells2 j u hu
    obtain rfl : p = ⟨g, off, none⟩ := by rw [hp] at e3; simpa using e3
    rw [Addr.add_mid]; exact hc
  have holds : ∀ p, ad = some p → ∀ (j : Nat) (u : Value), xs[j]? = some u → w.cell? (p.add j) = some u := by
    intro p hp j u hu
    obtain ⟨g, off, e3, _, hc⟩ := hcells j u hu
    obtain rfl : p = ⟨g, off, none⟩ := by rw [hp] at e3; simpa using e3
    rw [Addr.add_mid]; exact hc
  unfold Oper.wp execOp
  rw [ho]
  simp only [resolve, hm, Sem.run_bind, Sem.run_pure, Result.andThen_ok, invoke, builtin]
  by_cases hM : M = 0
  · subst hM
    have hcs : cs = [] := by simpa using hcl
    subst hcs
    have hrun : (Builtin.append_ #[T, T] o.type #[.slice ad N N, .slice ad2 0 c2]).run P w = .ok (.slice ad N N) w := by
      cases ad <;> cases ad2 <;> simp [Builtin.append_, run_underlying hu, sizeOf, typeInfo, hi, Builtin.lenOf, Builtin.firstCells, storeCells, loadCells, loadCellsFrom]
    rw [hrun]
    simp only [Result.andThen_ok, Sem.run_pure, Oper.upon_value, hd]
    have := hs.pushS ms (L := [.cel (.slice ad (N + 0) N) (N + 0) (xs ++ [])]) hokS (okl1 (by
      rw [List.append_nil, Nat.add_zero]
      exact ⟨ad, N, rfl, Nat.le_refl _, hcm, hn0, hcells⟩))
    exact h ad N _ _ (this.put hok _)
  · have hp2 : ∃ p, ad2 = some p := by
      cases ad2 with
      | none => have := hn2 rfl; omega
      | some p => exact ⟨p, rfl⟩
    obtain ⟨p2, rfl⟩ := hp2
    have hbt : (N + M) * i.bytes ≤ 140737488355328 := by
      have : (N + M) * i.bytes ≤ 1000000 * 64 := Nat.mul_le_mul hl (by rw [hb1]; exact hby)
      omega
    have fin : ∀ (c' : Nat) (rest : List Value), N + M ≤ c' → c' ≤ maxLen →
        St n (w0.withS (putS ms w0.S [.cel (.slice (some ⟨w.heap.size, 0, none⟩) (N + M) c') (N + M) (xs ++ cs)])) fs bs a (w.drew.alloc (.cells (xs.toArray ++ cs.toArray ++ rest.toArray) E)) := by
      intro c' rest hle hcm'
      have hbl : Below w.heap.size w (w.drew.alloc (.cells (xs.toArray ++ cs.toArray ++ rest.toArray) E)) := (Below.refl w.heap.size w).drew.alloc (Nat.le_refl _) _
      refine hs.addS hokS hbl (okl1z (e := .cel _ _ _) ⟨_, _, rfl, hle, hcm', (fun h => by cases h), fun j u hu => ⟨w.heap.size, 0, rfl, .inr (.inl (Nat.le_refl _)), ?_⟩⟩)
      have hat : (w.drew.alloc (.cells (xs.toArray ++ cs.toArray ++ rest.toArray) E)).heap[w.heap.size]? = some (.cells (xs.toArray ++ cs.toArray ++ rest.toArray) E (0, 0)) := heap_alloc_new w.drew _
      rw [Nat.zero_add, cell_of_row _ w.heap.size j _ E _ hat]
      have hlt := (List.getElem?_eq_some_iff.1 hu).1
      rw [← hu]
      have : xs.toArray ++ cs.toArray ++ rest.toArray = (xs ++ cs ++ rest).toArray := by simp
      rw [this]
      simp only [List.getElem?_toArray]
      rw [List.getElem?_append_left hlt]
    cases ad with
    | none =>
      have hN0 : N = 0 := hn0 rfl
      subst hN0
      have hx0 : xs = [] := by simpa using hxl
      subst hx0
      have hr := run_append_nil (P := P) (w := w) T o.type E i z hu hi hz p2 M c2 cs hcl (hnews p2 rfl) (by omega) (by omega) (by rw [Nat.zero_add] at hbt; omega)
      rw [hr]
      simp only [Result.andThen_ok, Sem.run_pure, Oper.upon_value, hd]
      have hf := fin (grownCap w M 0 E) (Builtin.zeroCells z.cells (grownCap w M 0 E - M)).toList (by rw [Nat.zero_add]; exact grownCap_ge w M 0 E) (grownCap_le_maxLen w M 0 E (by omega))
      simp only [Array.toArray_toList, Nat.zero_add, List.nil_append, Array.empty_append] at hf ⊢
      have h' := h (some ⟨w.heap.size, 0, none⟩) (grownCap w M 0 E)
      simp only [Nat.zero_add, List.nil_append] at h'
      exact h' _ _ (hf.put hok _)
    | some p1 =>
      have hr := run_append_grow (P := P) (w := w) T o.type E i z hu hi hz p1 N N xs hxl (holds p1 rfl) p2 M c2 cs hcl (hnews p2 rfl) (by omega) (by omega) (growslice_fits (by omega) hbt)
      rw [hr]
      simp only [Result.andThen_ok, Sem.run_pure, Oper.upon_value, hd]
      have hf := fin (grownCap w (N + M) N E) (Builtin.zeroCells z.cells (grownCap w (N + M) N E - (N + M))).toList (grownCap_ge w (N + M) N E) (grownCap_le_maxLen w (N + M) N E (by omega))
      simp only [Array.toArray_toList] at hf
      exact h _ _ _ _ (hf.put hok _)
/-- a store into a row of one's own -/
theorem op_storeO (hs : St n w0 fs bs a w) (k : Nat) {t : TypeId} {x y : Operand} {v u : Value} {E : TypeId} {N j : Nat} {xs xs' : List Value} (hF : w0.F = []) (ho : o.op = .store t x y) (hd : o.dst = none)
    (hx : ev fs x = some (vidx v j)) (hy : ev fs y = some u) (hk : w0.S[k]? = some (true, .own v E 1 N xs)) (hj : j < N) (hz : ∀ w, (sizeOf t).run P w = .ok 1 w) (hu : u.cells = #[u]) (h1 : u.oneCell' = true) (hxs : xs.set j u = xs')
    (h : ∀ w', St n (w0.withS (w0.S.set k (true, .own v E 1 N xs'))) fs bs a w' → K a w') : o.wp P a w K Q := by
  subst hxs
  have hok := hs.fz k _ hk rfl
  rcases hok.1.2 with ⟨rfl, h0⟩ | ⟨g, cap, cur, rfl, _, hblk, hN, hcm, hcs, htk⟩
  · omega
  have hx' : a.eval x = .pointer (some ⟨g, j, none⟩) := by rw [hs.ev hx]; simp [vidx, Addr.add_mid]
  have hlen := hok.1.1
  have hjc : j < cur.size := by omega
  have hblk' : w.heap[g]? = some (.cells cur.toList.toArray E (0, 0)) := by simpa using hblk
  have hrun : (Instr.storeAt t (.pointer (some ⟨g, j, none⟩)) u).run P w = .ok () (w.setCells g j [u]) := by
    have := run_storeCells_cells (P := P) g j [u] 0 w (fun q hq => by
      have : q = 0 := by simpa using hq
      subst this
      simp only [Nat.add_zero]
      rw [cell_of_row w g j cur E _ hblk]
      simp [hjc]) (fun q hq => frozen_of_row w g _ _ E hblk) (fun v hv => by obtain rfl := List.mem_singleton.1 hv; exact h1)
    simp only [Nat.add_zero] at this
    simp only [Instr.storeAt, Instr.sureAddr, Sem.run_bind, Sem.run_pure, Result.andThen_ok, storeVar, hz, hu]
    simpa using this
  have hZB := hok.2 g rfl
  unfold Oper.wp execOp
  rw [ho]
  simp only [hx', hs.ev hy, Sem.run_bind, hrun, Result.andThen_ok, Sem.run_pure, Oper.upon_skip, hd]
  obtain ⟨r1, r2, r3, r4⟩ := setCells_rest g [u] j w
  have key : ∀ (q : Nat) (e : Bool × Fz), (w0.S.set k (true, .own (.slice (some ⟨g, 0, none⟩) N cap) E 1 N (xs.set j u)))[q]? = some e → (q = k ∧ e = (true, .own (.slice (some ⟨g, 0, none⟩) N cap) E 1 N (xs.set j u))) ∨ (q ≠ k ∧ w0.S[q]? = some e) := by
    intro q e he
    rw [List.getElem?_set] at he
    split at he
    · rename_i hqk
      split at he
      · exact .inl ⟨hqk.symm, by simpa using he.symm⟩
      · cases he
    · rename_i hqk; exact .inr ⟨fun e => hqk e.symm, he⟩
  have zup : ∀ i g', Zs w0 bs i g' → Zs (w0.withS (w0.S.set k (true, .own (.slice (some ⟨g, 0, none⟩) N cap) E 1 N (xs.set j u)))) bs i g' := fun i g' hg => ⟨hg.1, hg.2.1, fun q e hqi hq he ho' => by
    rcases key q e hq with ⟨rfl, rfl⟩ | ⟨_, h3⟩
    · exact hg.2.2 q _ hqi hk rfl ho'
    · exact hg.2.2 q e hqi h3 he ho'⟩
  refine h _ ⟨hs.size, hs.defers, hs.slots, fun q e he he1 => ?_, hs.apart, ?_, (fun p hp => by rw [hF] at hp; cases hp), fun q e he he1 => ?_⟩
  · have hne : e.2.1 ≠ g := hZB.1.2.1 q e he he1
    exact ⟨(heap_setCells_far g _ hne _ _ w).trans (hs.blks q e he he1).1, (hs.blks q e he he1).2⟩
  · refine hs.below.trans ⟨r1, r2, r3, by rw [r4]; exact Nat.le_refl _, fun p hp hpx => heap_setCells_far g p (fun e => ?_) _ _ w⟩
    subst e
    rcases hZB.2 with hB | hB
    · have h' : w0.w.heap.size ≤ p := hB
      omega
    · exact hpx hB
  · rcases key q e he with ⟨rfl, rfl⟩ | ⟨hqk, he0⟩
    · refine ⟨⟨by simp [hlen], .inr ⟨g, cap, (cur.toList.set j u).toArray, rfl, Nat.zero_le _, heap_setCells_at g E [u] j w cur.toList hblk', hN, hcm, by simp [hcs], ?_⟩⟩, fun g' hg' => ?_⟩
      · rw [← htk, List.take_set]
      · have : g = g' := by simpa [Value.ownBlock] using hg'
        subst this
        exact ⟨zup _ _ hZB.1, hZB.2⟩
    · refine Fz.ok_mono (fun _ _ h => h) (fun g' hg' _ => ⟨zup _ _ hg', heap_setCells_far g g' (fun e => ?_) _ _ w⟩) (hs.fz q e he0 he1)
      subst e
      exact hg'.2.2 k _ (fun e => hqk e.symm) hk rfl rfl
/-- an array out of a longer block -/
theorem ldv_tabs {κ : IntKind} {n : Nat} {f : Nat → Nat} {sp : List Value} : ldv true n (tab κ n f ++ sp) 0 = some (At κ n f) := by
  unfold ldv
  rw [show Nat.ble (0 + n) (tab κ n f ++ sp).length = true from Nat.ble_eq_true_of_le (by rw [List.length_append, tab_length]; omega)]
  simp only [cond_true, List.drop_zero]
  rw [List.take_left' (tab_length κ n f)]
theorem tab_ext {κ : IntKind} {n : Nat} {f g : Nat → Nat} (h : ∀ j, j < n → f j = g j) : tab κ n f = tab κ n g := by
  apply List.ext_getElem?
  intro j
  by_cases hj : j < n
  · rw [tab_get hj, tab_get hj, h j hj]
  · rw [List.getElem?_eq_none (by rw [tab_length]; omega), List.getElem?_eq_none (by rw [tab_length]; omega)]
theorem tabs_ext {κ : IntKind} {n : Nat} {f g : Nat → Nat} {sp : List Value} (h : ∀ j, j < n → f j = g j) : tab κ n f ++ sp = tab κ n g ++ sp := by rw [tab_ext h]
theorem run_convSB (w : World) {T U E : TypeId} {l : List UInt8} (hS : P.underlying T = some .string) (hD : P.underlying U = some (.slice E)) (hE : P.underlying E = some (.int .u8)) (hl : l.length ≤ 1000000) :
    ∃ g c ob w', (convert T U (.string (txt l))).run P w = .ok (.slice (some ⟨g, 0, none⟩) l.length c) w' ∧ w.heap.size ≤ g ∧ l.length ≤ c ∧ c ≤ maxLen ∧ w'.heap[g]? = some ob ∧ Below w.heap.size w w' ∧ ∀ j, j < l.length → w'.cell? ⟨g, j, none⟩ = some (.int .u8 (byt l j : Int)) := by
  have hsz : (txt l).size = l.length := rfl
  have hmax : (1000001 : Nat) ≤ maxLen := by decide
  rw [run_bytes_of_string w T U E (txt l) hS hD hE]
  generalize hob : Obj.cells (bytesRow (txt l) (grownCap w (txt l).size 0 E)) E ((bytesRow (txt l) (grownCap w (txt l).size 0 E)).size, (bytesRow (txt l) (grownCap w (txt l).size 0 E)).size + 1) = ob
  have hat : (w.drew.alloc ob).heap[w.heap.size]? = some ob := heap_alloc_new w.drew ob
  refine ⟨w.heap.size, grownCap w (txt l).size 0 E, ob, w.drew.alloc ob, rfl, Nat.le_refl _, by rw [hsz]; exact grownCap_ge w l.length 0 E, by rw [hsz]; exact grownCap_le_maxLen w l.length 0 E (by omega), hat, (Below.refl w.heap.size w).drew.alloc (Nat.le_refl _) ob, fun j hj => ?_⟩
  subst hob
  rw [cell_of_row _ w.heap.size j _ E _ hat]
  have h2 : j < (txt l).data.size := by simpa using hj
  simp only [bytesRow]
  rw [Array.getElem?_append_left (by simpa using hj), Array.getElem?_map, Array.getElem?_eq_getElem h2]
  simp [byt, hj]
theorem tabs_tail {κ : IntKind} {n : Nat} {f : Nat → Nat} {sp : List Value} {j i z : Nat} {v : Value} (h : j = n + i) (hv : sp[i]? = some v) : ldv false z (tab κ n f ++ sp) j = some v := by
  subst h
  simp only [ldv, cond_false]
  rw [List.getElem?_append_right (by rw [tab_length]; omega), tab_length, Nat.add_sub_cancel_left, hv]
theorem tabs_tle {κ : IntKind} {n : Nat} {f : Nat → Nat} {sp : List Value} {j i : Nat} (h : j = n + i) (hi : i < sp.length) : Nat.ble (j + 1) (tab κ n f ++ sp).length = true :=
  Nat.ble_eq_true_of_le (by rw [List.length_append, tab_length]; omega)
theorem tabs_wr {κ : IntKind} {n : Nat} {f : Nat → Nat} {sp sp' : List Value} {j i : Nat} {v : Value} (h : j = n + i) (hs : sp.set i v = sp') : wr (tab κ n f ++ sp) j [v] = tab κ n f ++ sp' := by
  subst h; subst hs
  simp only [wr]
  rw [List.set_append_right _ _ (by rw [tab_length]; omega), tab_length, Nat.add_sub_cancel_left]
/-- an array of bytes, as a list of them -/
def btl (n : Nat) (f : Nat → Nat) : List UInt8 := (List.range n).map fun i => UInt8.ofNat (f i)
theorem btl_len (n : Nat) (f : Nat → Nat) : (btl n f).length = n := by simp [btl]
theorem bcs_btl {n : Nat} {f : Nat → Nat} (h : ∀ j, j < n → f j < 256) : bcs (btl n f) = tab .u8 n f := by
  unfold bcs btl tab
  rw [List.map_map]
  apply List.map_congr_left
  intro i hi
  have := h i (List.mem_range.1 hi)
  simp; omega
theorem ldv_btl {n : Nat} {f : Nat → Nat} (h : ∀ j, j < n → f j < 256) : ldv true n (bcs (btl n f)) 0 = some (At .u8 n f) := by
  rw [bcs_btl h]; exact ldv_tab
theorem St.arrCel (hs : St n w0 fs bs a w) (ms : Option Nat) (k : Nat) {g n0 : Nat} {T : TypeId} {f : Nat → Nat} (hb : bs[k]? = some (true, g, T, tab .u8 n0 f)) (hf : ∀ j, j < n0 → f j < 256) (hm : n0 ≤ 1000000) (hok : okS ms w0.S 1 = true) :
    St n (w0.withS (putS ms w0.S [.cel (.slice (some ⟨g, 0, none⟩) n0 n0) n0 (bcs (btl n0 f))])) fs (bs.set k (false, g, T, tab .u8 n0 f)) a w := by
  have hmax : (1000001 : Nat) ≤ maxLen := by decide
  have hbk := hs.blks k _ hb rfl
  have key : ∀ (i : Nat) (e : Bl), (bs.set k (false, g, T, tab .u8 n0 f))[i]? = some e → e.1 = true → bs[i]? = some e ∧ i ≠ k := by
    intro i e h h1
    rw [List.getElem?_set] at h
    split at h
    · split at h
      · obtain rfl := Option.some.inj h; cases h1
      · cases h
    · rename_i hik; exact ⟨h, fun e => hik e.symm⟩
  have h0 : St n w0 fs (bs.set k (false, g, T, tab .u8 n0 f)) a w :=
    ⟨hs.size, hs.defers, hs.slots, fun i e h h1 => hs.blks i e (key i e h h1).1 h1, fun i j e e' hij h h' h1 h1' => hs.apart i j e e' hij (key i e h h1).1 (key j e' h' h1').1 h1 h1', hs.below, fun p hp => ⟨(hs.frz p hp).1, fun i e h h1 => (hs.frz p hp).2 i e (key i e h h1).1 h1⟩,
      fun i e h h1 => Fz.ok_mono (fun _ _ h => h) (fun x hx _ => ⟨⟨hx.1, fun j b hj hb1 => hx.2.1 j b (key j b hj hb1).1 hb1, hx.2.2⟩, rfl⟩) (hs.fz i e h h1)⟩
  refine h0.pushS ms hok (okl1 ⟨_, _, rfl, Nat.le_refl _, by omega, (fun h => by cases h), fun j u hu => ⟨g, 0, rfl, ⟨.inr hbk.2, fun i e h h1 => ?_, fun i e h h1 ho => ?_⟩, ?_⟩⟩)
  · obtain ⟨h2, h3⟩ := key i e h h1
    exact hs.apart i k e _ h3 h2 hb h1 rfl
  · exact (Fz.ok_lt (hs.fz i e h h1) ho).2.1.2.1 k _ hb rfl rfl
  · rw [bcs_btl hf] at hu
    rw [Nat.zero_add, cell_of_row w g j _ T _ hbk.1]
    simpa using hu
theorem tab_oneC {κ : IntKind} {n : Nat} {f : Nat → Nat} : ∀ u ∈ tab κ n f, u.oneCell' = true := by
  intro u hu
  obtain ⟨i, _, rfl⟩ := List.mem_map.1 hu
  rfl
theorem res0 {fn : Func} (h : fn.results = #[]) : (results fn a.tmps).run P w = .ok (.tuple #[]) w := by
  rw [results_rv, h, show (#[] : Array ResultVar) = [].toArray from rfl, List.mapM_toArray]
  simp only [List.mapM_nil, map_eq_pure_bind, pure_bind, Sem.run_pure]
  rfl
/-- a string's bytes, beside the blocks -/
theorem op_convSB' (hs : St n w0 fs bs a w) (m ms : Option Nat) {T U E : TypeId} {x : Operand} {l : List UInt8} {d : Nat} (ho : o.op = .convert T U x) (hd : o.dst = some d) (hx : ev fs x = some (.string (txt l)))
    (hT : P.underlying T = some .string) (hU : P.underlying U = some (.slice E)) (hE : P.underlying E = some (.int .u8)) (hl : l.length ≤ 1000000) (hokS : okS ms w0.S 1 = true) (hok : okf m fs d n = true)
    (hrun : ∃ g c ob w', (convert T U (.string (txt l))).run P w = .ok (.slice (some ⟨g, 0, none⟩) l.length c) w' ∧ w.heap.size ≤ g ∧ l.length ≤ c ∧ c ≤ maxLen ∧ w'.heap[g]? = some ob ∧ Below w.heap.size w w' ∧ ∀ j, j < l.length → w'.cell? ⟨g, j, none⟩ = some (.int .u8 (byt l j : Int)))
    (h : ∀ a' c' act w', St n (w0.withS (putS ms w0.S [.cel (.slice a' l.length c') l.length (bcs l)])) (putf m fs d (.slice a' l.length c')) bs act w' → K act w') : o.wp P a w K Q := by
  obtain ⟨g, c, ob, w', hr, hg, hc, hcm, hob, hb, hcell⟩ := hrun
  unfold Oper.wp execOp
  rw [ho]
  simp only [hs.ev hx, Sem.run_bind, hr, Result.andThen_ok, Sem.run_pure, Oper.upon_value, hd]
  refine h _ _ _ _ ((hs.addS hokS hb (okl1z (e := .cel _ _ _) ⟨_, _, rfl, hc, hcm, (fun h => by cases h), fun j u hu => ⟨g, 0, rfl, .inr (.inl hg), ?_⟩⟩)).put hok _)
  have hj : j < l.length := by have := (List.getElem?_eq_some_iff.1 hu).1; rwa [bcs_length] at this
  rw [Nat.zero_add, hcell j hj, ← hu, bcs_get hj]
end
end Go.Proofs.Ytejbajgpiecjcaa

/- SHA-256, as numbers and lists of bytes. Plain law, no program here. -/
namespace Go.Proofs.Ytejbajgpiecjcaa
def rr (x n : Nat) : Nat := (x / 2 ^ n) ||| (x * 2 ^ (32 - n) % 4294967296)
theorem rr_lt {x n : Nat} (h : x < 4294967296) : rr x n < 4294967296 :=
  Nat.or_lt_two_pow (n := 32) (Nat.lt_of_le_of_lt (Nat.div_le_self _ _) h) (Nat.mod_lt _ (by decide))
theorem x32 {x y : Nat} (hx : x < 4294967296) (hy : y < 4294967296) : x ^^^ y < 4294967296 := Nat.xor_lt_two_pow (n := 32) hx hy
theorem a32 {x y : Nat} (hy : y < 4294967296) : x &&& y < 4294967296 := Nat.and_lt_two_pow (n := 32) x hy
theorem m32 (x : Nat) : x % 4294967296 < 4294967296 := Nat.mod_lt _ (by decide)
def ss0 (x : Nat) : Nat := (rr x 7 ^^^ rr x 18) ^^^ (x / 2 ^ 3)
def ss1 (x : Nat) : Nat := (rr x 17 ^^^ rr x 19) ^^^ (x / 2 ^ 10)
def pre4 (b : List UInt8) (t : Nat) : Nat → Nat
  | 0 => 0
  | k + 1 => pre4 b t k * 256 + byt b (4 * t + k)
theorem pre4_lt (b : List UInt8) (t : Nat) : ∀ k, pre4 b t k < 256 ^ k
  | 0 => by simp [pre4]
  | k + 1 => by
    have h := pre4_lt b t k
    have := byt_lt b (4 * t + k)
    rw [pre4, Nat.pow_succ]
    omega
theorem pre4_24 {b : List UInt8} {t k : Nat} (h : k < 4) : pre4 b t k < 16777216 := by
  have h1 := pre4_lt b t k
  have h2 : 256 ^ k ≤ 256 ^ 3 := Nat.pow_le_pow_right (by decide) (by omega)
  have : 256 ^ 3 = 16777216 := by decide
  omega
theorem or_256' {x y : Nat} (hx : x < 256) : y * 256 ||| x = y * 256 + x := by
  have := Nat.shiftLeft_add_eq_or_of_lt (i := 8) (b := x) (by omega) y
  rw [Nat.shiftLeft_eq] at this
  rw [show (256 : Nat) = 2 ^ 8 from rfl, ← this]
def wv (b : List UInt8) (t : Nat) : Nat :=
  if _h : t < 16 then pre4 b t 4 else (((wv b (t - 16) + ss0 (wv b (t - 15))) % 4294967296 + wv b (t - 7)) % 4294967296 + ss1 (wv b (t - 2))) % 4294967296
termination_by t
decreasing_by all_goals omega
theorem wv_lo {b : List UInt8} {t : Nat} (h : t < 16) : wv b t = pre4 b t 4 := by rw [wv, dif_pos h]
theorem wv_hi {b : List UInt8} {t : Nat} (h : ¬ t < 16) : wv b t = (((wv b (t - 16) + ss0 (wv b (t - 15))) % 4294967296 + wv b (t - 7)) % 4294967296 + ss1 (wv b (t - 2))) % 4294967296 := by rw [wv, dif_neg h]
theorem wv_lt (b : List UInt8) (t : Nat) : wv b t < 4294967296 := by
  by_cases h : t < 16
  · rw [wv_lo h]
    have := pre4_lt b t 4
    have e : 256 ^ 4 = 4294967296 := by decide
    omega
  · rw [wv_hi h]; exact m32 _
def KK (i : Nat) : Nat := [1116352408, 1899447441, 3049323471, 3921009573, 961987163, 1508970993, 2453635748, 2870763221, 3624381080, 310598401, 607225278, 1426881987, 1925078388, 2162078206, 2614888103, 3248222580,
  3835390401, 4022224774, 264347078, 604807628, 770255983, 1249150122, 1555081692, 1996064986, 2554220882, 2821834349, 2952996808, 3210313671, 3336571891, 3584528711, 113926993, 338241895,
  666307205, 773529912, 1294757372, 1396182291, 1695183700, 1986661051, 2177026350, 2456956037, 2730485921, 2820302411, 3259730800, 3345764771, 3516065817, 3600352804, 4094571909, 275423344,
  430227734, 506948616, 659060556, 883997877, 958139571, 1322822218, 1537002063, 1747873779, 1955562222, 2024104815, 2227730452, 2361852424, 2428436474, 2756734187, 3204031479, 3329325298].getD i 0
def ft8 (a b c d e f g h : Nat) (i : Nat) : Nat := [a, b, c, d, e, f, g, h].getD i 0
def HH0 : Nat → Nat := ft8 1779033703 3144134277 1013904242 2773480762 1359893119 2600822924 528734635 1541459225
theorem ft8_lt {a b c d e f g h : Nat} {M : Nat} (h0 : 0 < M) (ha : a < M) (hb : b < M) (hc : c < M) (hd : d < M) (he : e < M) (hf : f < M) (hg : g < M) (hh : h < M) (i : Nat) : ft8 a b c d e f g h i < M := by
  match i with
  | 0 => exact ha
  | 1 => exact hb
  | 2 => exact hc
  | 3 => exact hd
  | 4 => exact he
  | 5 => exact hf
  | 6 => exact hg
  | 7 => exact hh
  | i + 8 => simpa [ft8] using h0
theorem HH0_lt (i : Nat) : HH0 i < 4294967296 := ft8_lt (by decide) (by decide) (by decide) (by decide) (by decide) (by decide) (by decide) (by decide) (by decide) i
theorem KK_lt (i : Nat) : KK i < 4294967296 := by
  by_cases h : i < 64
  · have : ∀ j : Fin 64, KK j.1 < 4294967296 := by decide
    exact this ⟨i, h⟩
  · unfold KK
    rw [List.getD_eq_getElem?_getD, List.getElem?_eq_none (by simp; omega)]
    decide
def t1v (k w : Nat) (v : Nat → Nat) : Nat :=
  ((((v 7 + ((rr (v 4) 6 ^^^ rr (v 4) 11) ^^^ rr (v 4) 25)) % 4294967296 + ((v 4 &&& v 5) ^^^ ((4294967295 - v 4) &&& v 6))) % 4294967296 + k) % 4294967296 + w) % 4294967296
def t2v (v : Nat → Nat) : Nat :=
  (((rr (v 0) 2 ^^^ rr (v 0) 13) ^^^ rr (v 0) 22) + (((v 0 &&& v 1) ^^^ (v 0 &&& v 2)) ^^^ (v 1 &&& v 2))) % 4294967296
def rnd (k w : Nat) (v : Nat → Nat) : Nat → Nat := ft8 ((t1v k w v + t2v v) % 4294967296) (v 0) (v 1) (v 2) ((v 3 + t1v k w v) % 4294967296) (v 4) (v 5) (v 6)
theorem rnd_lt {k w : Nat} {v : Nat → Nat} (h : ∀ j, v j < 4294967296) (j : Nat) : rnd k w v j < 4294967296 :=
  ft8_lt (by decide) (m32 _) (h _) (h _) (h _) (m32 _) (h _) (h _) (h _) j
def rnds (w h : Nat → Nat) : Nat → Nat → Nat
  | 0 => h
  | t + 1 => rnd (KK t) (w t) (rnds w h t)
theorem rnds_lt {w h : Nat → Nat} (hh : ∀ j, h j < 4294967296) : ∀ t j, rnds w h t j < 4294967296
  | 0, j => hh j
  | t + 1, j => rnd_lt (rnds_lt hh t) j
/-- a block taken -/
def blk (h : Nat → Nat) (b : List UInt8) (i : Nat) : Nat := (h i + rnds (wv b) h 64 i) % 4294967296
theorem blk_lt (h : Nat → Nat) (b : List UInt8) (i : Nat) : blk h b i < 4294967296 := m32 _
def blks (h : Nat → Nat) (l : List UInt8) : Nat → Nat := if _h : l.length < 64 then h else blks (blk h (l.take 64)) (l.drop 64)
termination_by l.length
decreasing_by simp; omega
theorem blks_end {h : Nat → Nat} {l : List UInt8} (hl : l.length < 64) : blks h l = h := by rw [blks, dif_pos hl]
theorem blks_step {h : Nat → Nat} {l : List UInt8} (hl : ¬ l.length < 64) : blks h l = blks (blk h (l.take 64)) (l.drop 64) := by rw [blks, dif_neg hl]
theorem blks_lt {h : Nat → Nat} (hh : ∀ j, h j < 4294967296) (l : List UInt8) (j : Nat) : blks h l j < 4294967296 := by
  induction hn : l.length using Nat.strongRecOn generalizing h l with
  | _ n ih =>
    by_cases hl : l.length < 64
    · rw [blks_end hl]; exact hh j
    · rw [blks_step hl]
      exact ih _ (by simp; omega) (blk_lt _ _) _ rfl
/-- what is left behind all whole blocks -/
def rst (l : List UInt8) : List UInt8 := l.drop (64 * (l.length / 64))
theorem rst_end {l : List UInt8} (hl : l.length < 64) : rst l = l := by unfold rst; rw [Nat.div_eq_of_lt hl]; simp
theorem rst_step {l : List UInt8} (hl : ¬ l.length < 64) : rst l = rst (l.drop 64) := by
  unfold rst
  rw [List.drop_drop, List.length_drop]
  congr 1
  omega
theorem rst_length (l : List UInt8) : (rst l).length = l.length % 64 := by unfold rst; rw [List.length_drop]; omega
theorem blks_append {h : Nat → Nat} (l k : List UInt8) : blks h (l ++ k) = blks (blks h l) (rst l ++ k) := by
  induction hn : l.length using Nat.strongRecOn generalizing h l with
  | _ n ih =>
    by_cases hl : l.length < 64
    · rw [blks_end hl, rst_end hl]
    · rw [blks_step hl, rst_step hl, blks_step (l := l ++ k) (by simp; omega), List.take_append_of_le_length (by omega), List.drop_append_of_le_length (by omega)]
      exact ih _ (by simp; omega) _ rfl
theorem rst_append (l k : List UInt8) : rst (l ++ k) = rst (rst l ++ k) := by
  induction hn : l.length using Nat.strongRecOn generalizing l with
  | _ n ih =>
    by_cases hl : l.length < 64
    · rw [rst_end hl]
    · rw [rst_step hl, rst_step (l := l ++ k) (by simp; omega), List.drop_append_of_le_length (by omega)]
      exact ih _ (by simp; omega) _ rfl
/-- eight bytes of a number -/
def be8 (x : Nat) : List UInt8 := (List.range 8).map fun i => UInt8.ofNat (x / 2 ^ (56 - 8 * i) % 256)
def be8t (x k : Nat) : List UInt8 := (List.range k).map fun i => UInt8.ofNat (x / 2 ^ (56 - 8 * i) % 256)
theorem be8t_succ (x k : Nat) : be8t x (k + 1) = be8t x k ++ [UInt8.ofNat (x / 2 ^ (56 - 8 * k) % 256)] := by simp [be8t, List.range_succ]
theorem be8t_len (x k : Nat) : (be8t x k).length = k := by simp [be8t]
/-- what is added behind m bytes, where n were told in all -/
def zs64 (m : Nat) : Nat := (119 - m % 64) % 64
def tl0 (j : Nat) : List UInt8 := UInt8.ofNat 128 :: List.replicate j 0
def tl64 (m n : Nat) : List UInt8 := tl0 (zs64 m) ++ be8 (n * 8)
theorem tl0_len (j : Nat) : (tl0 j).length = j + 1 := by simp [tl0]
theorem tl0_succ (j : Nat) : tl0 j ++ [UInt8.ofNat 0] = tl0 (j + 1) := by
  unfold tl0
  rw [List.replicate_succ', List.cons_append]; rfl
theorem tl64_mod (m n : Nat) : tl64 (m % 64) n = tl64 m n := by unfold tl64 zs64; rw [Nat.mod_mod]
theorem tl64_len (m n : Nat) : (m + (tl64 m n).length) % 64 = 0 := by
  unfold tl64 zs64
  simp [tl0_len, be8]
  omega
theorem zs_end {m j : Nat} (hj : j ≤ zs64 m) (h : (m + (j + 1)) % 64 = 56) : j = zs64 m := by unfold zs64 at *; omega
theorem zs_go {m j : Nat} (hj : j ≤ zs64 m) (h : ¬ (m + (j + 1)) % 64 = 56) : j + 1 ≤ zs64 m := by
  by_cases e : j = zs64 m
  · exfalso; subst e; unfold zs64 at h; omega
  · omega
def shaH (l : List UInt8) : Nat → Nat := blks HH0 (l ++ tl64 l.length l.length)
def shaB (h : Nat → Nat) (j : Nat) : Nat := h (j / 4) / 2 ^ (24 - 8 * (j % 4)) % 256
def sha (l : List UInt8) (j : Nat) : Nat := shaB (shaH l) j
theorem shaB_lt (h : Nat → Nat) (j : Nat) : shaB h j < 256 := Nat.mod_lt _ (by decide)
theorem sha_lt (l : List UInt8) (j : Nat) : sha l j < 256 := shaB_lt _ _
/-- the hash that goes on: its numbers, its rest, how many -/
theorem sha_go (l : List UInt8) : blks (blks HH0 l) (rst l ++ tl64 (rst l).length l.length) = shaH l := by
  unfold shaH
  rw [rst_length, tl64_mod, ← blks_append]
theorem wr_go (h : Nat → Nat) (l k : List UInt8) : blks (blks h l) (rst l ++ k) = blks h (l ++ k) := (blks_append l k).symm
theorem not32 {x : Nat} (h : x < 4294967296) : x ^^^ 4294967295 = 4294967295 - x := by
  have e := BitVec.toNat_not (x := BitVec.ofNat 32 x)
  have e2 : (~~~ (BitVec.ofNat 32 x)) = BitVec.ofNat 32 x ^^^ BitVec.allOnes 32 := (BitVec.xor_allOnes).symm
  rw [e2, BitVec.toNat_xor, BitVec.toNat_ofNat, BitVec.toNat_allOnes, Nat.mod_eq_of_lt h] at e
  exact e
theorem or_add {x y k : Nat} (hx : x < 2 ^ k) : y * 2 ^ k ||| x = y * 2 ^ k + x := by
  have := Nat.shiftLeft_add_eq_or_of_lt (i := k) (b := x) hx y
  rw [Nat.shiftLeft_eq] at this
  exact this.symm
theorem or4 {a b c d : Nat} (hb : b < 256) (hc : c < 256) (hd : d < 256) : ((a * 2 ^ 24 ||| b * 2 ^ 16) ||| c * 2 ^ 8) ||| d = ((a * 256 + b) * 256 + c) * 256 + d := by
  rw [or_add (x := b * 2 ^ 16) (k := 24) (by omega), show a * 2 ^ 24 + b * 2 ^ 16 = (a * 256 + b) * 2 ^ 16 by omega, or_add (x := c * 2 ^ 8) (k := 16) (by omega),
    show (a * 256 + b) * 2 ^ 16 + c * 2 ^ 8 = ((a * 256 + b) * 256 + c) * 2 ^ 8 by omega, or_add (x := d) (k := 8) (by omega)]
theorem pre4_4 (b : List UInt8) (t : Nat) : pre4 b t 4 = ((byt b (4 * t) * 256 + byt b (4 * t + 1)) * 256 + byt b (4 * t + 2)) * 256 + byt b (4 * t + 3) := by
  simp [pre4]
theorem wv_comm (a b c d : Nat) : (((a + b) % 4294967296 + c) % 4294967296 + d) % 4294967296 = (((d + c) % 4294967296 + b) % 4294967296 + a) % 4294967296 := by omega
/-- the words of a block under way -/
def w16 (l : List UInt8) (i k j : Nat) : Nat := if j < i then wv l j else if j = i then pre4 l i k else 0
theorem w16_at (l : List UInt8) (i k : Nat) : w16 l i k i = pre4 l i k := by simp [w16]
theorem w16_zero (l : List UInt8) (j : Nat) : 0 = w16 l 0 0 j := by unfold w16; rw [if_neg (by omega)]; split <;> rfl
theorem w16_next {l : List UInt8} {i : Nat} (hi : i < 16) (j : Nat) : w16 l i 4 j = w16 l (i + 1) 0 j := by
  unfold w16
  by_cases h : j < i
  · rw [if_pos h, if_pos (by omega)]
  · rw [if_neg h]
    by_cases h2 : j = i
    · subst h2
      rw [if_pos rfl, if_pos (by omega), wv_lo hi]
    · rw [if_neg h2, if_neg (by omega)]; split <;> rfl
theorem w16_step {l : List UInt8} {i k z : Nat} (hz : z = pre4 l i k * 256 + byt l (4 * i + k)) (j : Nat) : upn (w16 l i k) i z j = w16 l i (k + 1) j := by
  unfold upn w16
  by_cases h : j = i
  · subst h
    rw [if_pos rfl, if_neg (by omega), if_pos rfl, hz]; rfl
  · rw [if_neg h]
    by_cases h2 : j < i
    · rw [if_pos h2, if_pos h2]
    · rw [if_neg h2, if_neg h, if_neg h2, if_neg h]
def w64 (l : List UInt8) (i j : Nat) : Nat := if j < i then wv l j else 0
theorem w64_at {l : List UInt8} {i j : Nat} (h : j < i) : wv l j = w64 l i j := (if_pos h).symm
theorem w64_lt (l : List UInt8) (i j : Nat) : w64 l i j < 4294967296 := by unfold w64; split; exact wv_lt _ _; decide
theorem w64_16 (l : List UInt8) (j : Nat) : w16 l 16 0 j = w64 l 16 j := by
  unfold w16 w64
  split
  · rfl
  · split <;> rfl
theorem w64_step {l : List UInt8} {i z : Nat} (hz : z = wv l i) (j : Nat) : upn (w64 l i) i z j = w64 l (i + 1) j := by
  unfold upn w64
  by_cases h : j = i
  · subst h; rw [if_pos rfl, if_pos (by omega), hz]
  · rw [if_neg h]
    by_cases h2 : j < i
    · rw [if_pos h2, if_pos (by omega)]
    · rw [if_neg h2, if_neg (by omega)]
theorem w64_end {l : List UInt8} {j : Nat} (h : j < 64) : w64 l 64 j = wv l j := if_pos h
theorem byt_part {l : List UInt8} {a n k : Nat} (h : k < n) : byt ((l.drop a).take n) k = byt l (a + k) := by
  unfold byt
  rw [List.getD_eq_getElem?_getD, List.getElem?_take_of_lt h, List.getElem?_drop, List.getD_eq_getElem?_getD]
/-- the sums at a block's end -/
def addT (h v : Nat → Nat) (i j : Nat) : Nat := if j < i then (h j + v j) % 4294967296 else h j
theorem addT_zero (h v : Nat → Nat) (j : Nat) : h j = addT h v 0 j := by unfold addT; rw [if_neg (by omega)]
theorem addT_at (h v : Nat → Nat) (i : Nat) : addT h v i i = h i := by unfold addT; rw [if_neg (by omega)]
theorem addT_lt {h v : Nat → Nat} (hh : ∀ j, h j < 4294967296) (i j : Nat) : addT h v i j < 4294967296 := by unfold addT; split; exact m32 _; exact hh j
theorem addT_step {h v : Nat → Nat} {i z : Nat} (hz : z = (h i + v i) % 4294967296) (j : Nat) : upn (addT h v i) i z j = addT h v (i + 1) j := by
  unfold upn addT
  by_cases e : j = i
  · subst e; rw [if_pos rfl, if_pos (by omega), hz]
  · rw [if_neg e]
    by_cases h2 : j < i
    · rw [if_pos h2, if_pos (by omega)]
    · rw [if_neg h2, if_neg (by omega)]
theorem addT_end {h : Nat → Nat} {b : List UInt8} {j : Nat} (hj : j < 8) : addT h (rnds (wv b) h 64) 8 j = blk h b j := if_pos hj
def addV (h v : Nat → Nat) (i j : Nat) : Nat := if j < i then (v j + h j) % 4294967296 else v j
theorem addV_zero (h v : Nat → Nat) (j : Nat) : v j = addV h v 0 j := by unfold addV; rw [if_neg (by omega)]
theorem addV_at (h v : Nat → Nat) (i : Nat) : addV h v i i = v i := by unfold addV; rw [if_neg (by omega)]
theorem addV_lt {h v : Nat → Nat} (hv : ∀ j, v j < 4294967296) (i j : Nat) : addV h v i j < 4294967296 := by unfold addV; split; exact m32 _; exact hv j
theorem addV_step {h v : Nat → Nat} {i z : Nat} (hz : z = (v i + h i) % 4294967296) (j : Nat) : upn (addV h v i) i z j = addV h v (i + 1) j := by
  unfold upn addV
  by_cases e : j = i
  · subst e; rw [if_pos rfl, if_pos (by omega), hz]
  · rw [if_neg e]
    by_cases h2 : j < i
    · rw [if_pos h2, if_pos (by omega)]
    · rw [if_neg h2, if_neg (by omega)]
theorem addV_end {h : Nat → Nat} {b : List UInt8} {j : Nat} (hj : j < 8) : addV h (rnds (wv b) h 64) 8 j = blk h b j := by
  unfold addV blk; rw [if_pos hj, Nat.add_comm]
theorem tab_snoc1 {k : IntKind} {n z : Nat} {f : Nat → Nat} (h : f n = z) : tab k n f ++ [.int k (z : Int)] = tab k (n + 1) f := by
  subst h; simp [tab, List.range_succ]
theorem tl64_le (m n : Nat) : (tl64 m n).length ≤ 72 := by
  unfold tl64 zs64
  simp [tl0_len, be8]
  omega
/-- the bytes of a hash under way -/
def outT (h : Nat → Nat) (i j : Nat) : Nat := if j < i then shaB h j else 0
theorem outT_zero (h : Nat → Nat) (j : Nat) : 0 = outT h 0 j := by unfold outT; rw [if_neg (by omega)]
theorem outT_lt (h : Nat → Nat) (i j : Nat) : outT h i j < 256 := by unfold outT; split; exact shaB_lt _ _; decide
theorem outT_step {h : Nat → Nat} {i z : Nat} (hz : z = shaB h i) (j : Nat) : upn (outT h i) i z j = outT h (i + 1) j := by
  unfold upn outT
  by_cases e : j = i
  · subst e; rw [if_pos rfl, if_pos (by omega), hz]
  · rw [if_neg e]
    by_cases h2 : j < i
    · rw [if_pos h2, if_pos (by omega)]
    · rw [if_neg h2, if_neg (by omega)]
theorem outT_end {h : Nat → Nat} {j : Nat} (hj : j < 32) : outT h 32 j = shaB h j := if_pos hj
theorem shaB_at {h : Nat → Nat} {i k : Nat} (hk : k < 4) : h i / 2 ^ (24 - 8 * k) % 256 = shaB h (4 * i + k) := by
  unfold shaB
  rw [show (4 * i + k) / 4 = i by omega, show (4 * i + k) % 4 = k by omega]
/-- the hash behind a tag -/
def tagH (t l : List UInt8) : Nat → Nat := sha (btl 32 (sha t) ++ btl 32 (sha t) ++ l)
theorem tagH_lt (t l : List UInt8) (j : Nat) : tagH t l j < 256 := sha_lt _ _
def dbl (l : List UInt8) : Nat → Nat := sha (btl 32 (sha l))
theorem dbl_lt (l : List UInt8) (j : Nat) : dbl l j < 256 := sha_lt _ _
theorem wr_h (m b : List UInt8) : blks (blks HH0 m) (rst m ++ b) = blks HH0 (m ++ b) := wr_go HH0 m b
theorem blks_state {h h' : Nat → Nat} {l : List UInt8} (hl : ¬ 64 ≤ l.length) (e : h' = blks h l) : h' = h := by rw [e, blks_end (by omega)]
theorem rst_lt (l : List UInt8) : (rst l).length < 64 := by rw [rst_length]; exact Nat.mod_lt _ (by decide)
theorem sha_sum (m : List UInt8) : blks (blks HH0 m) (rst m ++ tl64 (rst m).length m.length) = shaH m := sha_go m
end Go.Proofs.Ytejbajgpiecjcaa

/- Keys and signatures on the curve. Plain law, no program here. -/
namespace Go.Proofs.Ytejbajgpiecjcaa
theorem mN (a : Nat) : a % Nord < Nord := Nat.mod_lt _ (by decide)
theorem mN256 (a : Nat) : a % Nord < 2 ^ 256 := Nat.lt_trans (mN a) Nord_lt
/-- the negative of a number, modulo the order -/
def ngN (k : Nat) : Nat := (Nord - k % Nord) % Nord
theorem ngN_mod (k : Nat) : (ngN k + k) % Nord = 0 := by
  have h := mN k
  unfold ngN
  rw [Nat.mod_add_mod, ← Nat.add_mod_mod, Nat.sub_add_cancel (Nat.le_of_lt h), Nat.mod_self]
theorem nmul_ng {P : EM.Pt Pf} (h : P.on) (k : Nat) : EM.nmul (ngN k) P = (EM.nmul k P).neg := by
  have o1 := EM.on_nmul Pf_good k h
  have o2 := EM.on_nmul Pf_good (ngN k) h
  have e : (EM.nmul (ngN k) P).add (EM.nmul k P) = .O := by
    rw [← EM.nmul_add Pf_good (ngN k) h, ← nmul_mod h, ngN_mod]; rfl
  have c := EM.cancel Pf_good o1 o2
  rw [EM.add_comm' Pf_good o1 o2, e, EM.add_O] at c
  exact c.symm
theorem nG_O {k : Nat} (h : EM.nmul k Gp = .O) : k % Nord = 0 := by
  by_cases h0 : k % Nord = 0
  · exact h0
  · exfalso
    rw [← nmul_mod Gp_on] at h
    have hg := EM.nmul_gcd Pf_good Gp_on (k % Nord) Nord h Nord_Gp
    have hgc : Nat.gcd (k % Nord) Nord = 1 := gcd_one EM.pr_order (mN k) h0
    rw [hgc, nmul_one'] at hg
    cases hg
theorem nG_pz {k : Nat} (h : ¬ k % Nord = 0) : pz (EM.nmul k Gp) = false := by
  cases hz : pz (EM.nmul k Gp) with
  | false => rfl
  | true => exact absurd (nG_O (pz_O hz)) h
/-- a secret's number, its key's bytes, the error -/
def sD (s : Nat) : Nat := if s % Nord = 0 then 0 else if evB (EM.nmul (s % Nord) Gp) = true then s % Nord else ngN (s % Nord)
def sK (s : Nat) : Nat → Nat := if s % Nord = 0 then fun _ => 0 else by8 (px (EM.nmul (s % Nord) Gp))
def sE (s : Nat) : Nat := if s % Nord = 0 then 1 else 0
theorem sD_lt (s : Nat) : sD s < Nord := by
  unfold sD
  split
  · decide
  · split
    · exact mN _
    · exact mN _
theorem sD_lt256 (s : Nat) : sD s < 2 ^ 256 := Nat.lt_trans (sD_lt s) Nord_lt
theorem sK_lt (s j : Nat) : sK s j < 256 := by
  unfold sK
  split
  · show 0 < 256; decide
  · exact by8_lt _ _
theorem sE_0 {s : Nat} (h : sE s = 0) : ¬ s % Nord = 0 := fun e => by rw [sE, if_pos e] at h; cases h
theorem sE_1 {s : Nat} (h : sE s ≠ 0) : s % Nord = 0 ∧ sE s = 1 := by
  by_cases e : s % Nord = 0
  · exact ⟨e, if_pos e⟩
  · exact absurd (if_neg e) h
theorem sE_le (s : Nat) : sE s < 2 := by unfold sE; split <;> decide
section
variable {s : Nat} (hs : ¬ s % Nord = 0)
include hs
theorem sD_ev (h : evB (EM.nmul (s % Nord) Gp) = true) : sD s = s % Nord := by unfold sD; rw [if_neg hs, if_pos h]
theorem sD_od (h : ¬ evB (EM.nmul (s % Nord) Gp) = true) : sD s = ngN (s % Nord) := by unfold sD; rw [if_neg hs, if_neg h]
theorem sK_eq : sK s = by8 (px (EM.nmul (s % Nord) Gp)) := if_neg hs
theorem sz_pz : pz (EM.nmul (s % Nord) Gp) = false := nG_pz (by rw [Nat.mod_mod]; exact hs)
theorem sP_eq : EM.nmul (sD s) Gp = if evB (EM.nmul (s % Nord) Gp) = true then EM.nmul (s % Nord) Gp else (EM.nmul (s % Nord) Gp).neg := by
  by_cases h : evB (EM.nmul (s % Nord) Gp) = true
  · rw [if_pos h, sD_ev hs h]
  · rw [if_neg h, sD_od hs h, nmul_ng Gp_on]
theorem sP_ev : evB (EM.nmul (sD s) Gp) = true ∧ px (EM.nmul (sD s) Gp) = px (EM.nmul (s % Nord) Gp) ∧ pz (EM.nmul (sD s) Gp) = false := by
  have hz := sz_pz hs
  rw [sP_eq hs]
  split
  · rename_i h; exact ⟨h, rfl, hz⟩
  · rename_i h
    obtain ⟨a, _, c⟩ := neg_A hz
    refine ⟨?_, a, c⟩
    rw [ev_neg (EM.on_nmul Pf_good _ Gp_on) hz]
    cases hb : evB (EM.nmul (s % Nord) Gp) with
    | true => exact absurd hb h
    | false => rfl
theorem sK_lift : liftP (pr (sK s) 0 32) = EM.nmul (sD s) Gp := by
  rw [sK_eq hs, pr_by8_all (px_lt _), lift_back (EM.on_nmul Pf_good _ Gp_on) (sz_pz hs), sP_eq hs]
end
theorem add_neg_back {A B : EM.Pt Pf} (a : A.on) (b : B.on) : (A.add B).add B.neg = A := by
  rw [EM.assoc Pf_good a b (EM.on_neg b), EM.add_comm' Pf_good b (EM.on_neg b), EM.neg_add_self Pf_good b, EM.add_O]
/-- the signature's number answers -/
theorem sign_eq (s k e : Nat) : (EM.nmul ((sD k + e * sD s % Nord) % Nord) Gp).add (EM.nmul (ngN e) (EM.nmul (sD s) Gp)) = EM.nmul (sD k) Gp := by
  have os : (EM.nmul (sD s) Gp).on := EM.on_nmul Pf_good _ Gp_on
  have ok : (EM.nmul (sD k) Gp).on := EM.on_nmul Pf_good _ Gp_on
  rw [Nat.add_mod_mod, nmul_mod Gp_on, EM.nmul_add Pf_good _ Gp_on, Nat.mul_comm, EM.nmul_mul Pf_good _ Gp_on, nmul_ng os]
  exact add_neg_back ok (EM.on_nmul Pf_good _ os)
/-- bytes -/
theorem byt_btl {n : Nat} {f : Nat → Nat} {j : Nat} (hj : j < n) (hf : f j < 256) : byt (btl n f) j = f j := by
  simp [byt, btl, hj]; omega
theorem btl_byt {l : List UInt8} {n : Nat} (h : l.length = n) : btl n (byt l) = l := by
  subst h
  apply List.ext_getElem?
  intro j
  by_cases hj : j < l.length
  · simp [btl, byt, hj]
  · rw [List.getElem?_eq_none (by simp [btl]; omega), List.getElem?_eq_none (by omega)]
theorem btl_congr {n : Nat} {f g : Nat → Nat} (h : ∀ j, j < n → f j = g j) : btl n f = btl n g := by
  unfold btl
  apply List.map_congr_left
  intro i hi
  rw [h i (List.mem_range.1 hi)]
theorem pr_congr0 {b c : Nat → Nat} (h : ∀ j, j < 32 → b j = c j) : pr b 0 32 = pr c 0 32 := pr_congr 32 fun j _ hj => h j (by omega)
def chTag : List UInt8 := [66, 73, 80, 48, 51, 52, 48, 47, 99, 104, 97, 108, 108, 101, 110, 103, 101]
def tuTag : List UInt8 := [84, 97, 112, 84, 119, 101, 97, 107]
/-- what a signature must answer -/
def chal (r key : Nat → Nat) (msg : List UInt8) : Nat := pr (tagH chTag (btl 32 r ++ btl 32 key ++ msg)) 0 32 % Nord
theorem chal_lt (r key : Nat → Nat) (msg : List UInt8) : chal r key msg < 2 ^ 256 := mN256 _
/-- the number of bytes, below the order or none -/
def rdN (b : Nat → Nat) : Nat := if pr b 0 32 < Nord then pr b 0 32 else 0
theorem rdN_lt (b : Nat → Nat) : rdN b < 2 ^ 256 := by
  unfold rdN
  have := Nord_lt
  split
  · omega
  · decide
theorem rdN_yes {b : Nat → Nat} (h : pr b 0 32 < Nord) : rdN b = pr b 0 32 := if_pos h
/-- whether the first n numbers of two rows are alike -/
def eqF (n : Nat) (f g : Nat → Nat) : Bool := (List.range n).all fun j => f j == g j
theorem eqF_iff {n : Nat} {f g : Nat → Nat} : eqF n f g = true ↔ ∀ j, j < n → f j = g j := by
  simp [eqF, List.all_eq_true]
/-- the point that a signature must have -/
def vPt (key : Nat → Nat) (msg sig : List UInt8) : EM.Pt Pf :=
  (EM.nmul (rdN (byt (sig.drop 32))) Gp).add (EM.nmul (ngN (chal (byt (sig.take 32)) key msg)) (liftP (pr key 0 32)))
theorem vPt_on (key : Nat → Nat) (msg sig : List UInt8) : (vPt key msg sig).on := EM.on_add Pf_good (EM.on_nmul Pf_good _ Gp_on) (EM.on_nmul Pf_good _ (lift_on _))
def vRest (key : Nat → Nat) (msg sig : List UInt8) : Bool := evB (vPt key msg sig) && eqF 32 (by8 (px (vPt key msg sig))) (byt (sig.take 32))
def verB (key : Nat → Nat) (msg sig : List UInt8) : Bool :=
  if pz (liftP (pr key 0 32)) = true ∨ sig.length ≠ 64 then false
  else if ¬ pr (byt (sig.drop 32)) 0 32 < Nord then false else vRest key msg sig
theorem verB_1 {key : Nat → Nat} {msg sig : List UInt8} (h : pz (liftP (pr key 0 32)) = true ∨ sig.length ≠ 64) : verB key msg sig = false := if_pos h
theorem verB_2 {key : Nat → Nat} {msg sig : List UInt8} (h : ¬ pr (byt (sig.drop 32)) 0 32 < Nord) : verB key msg sig = false := by
  unfold verB
  by_cases h1 : pz (liftP (pr key 0 32)) = true ∨ sig.length ≠ 64
  · exact if_pos h1
  · rw [if_neg h1]; exact if_pos h
/-- what a secret's straightening tells, by cases -/
theorem st_zero {s r : Nat} (hr : s % Nord = r) (h : r = 0) : sD s = r ∧ sK s = (fun _ => 0) ∧ sE s = 1 := by
  subst h
  exact ⟨if_pos hr, if_pos hr, if_pos hr⟩
theorem st_even {s r : Nat} {T : EM.Pt Pf} (hr : s % Nord = r) (h : ¬ r = 0) (hT : EM.nmul r Gp = T) (he : evB T = true) : sD s = r ∧ sK s = by8 (px T) ∧ sE s = 0 := by
  subst hr; subst hT
  exact ⟨sD_ev h he, sK_eq h, if_neg h⟩
theorem st_odd {s r x : Nat} {T : EM.Pt Pf} (hr : s % Nord = r) (h : ¬ r = 0) (hT : EM.nmul r Gp = T) (he : ¬ evB T = true) (hx : (Nord - r % Nord) % Nord = x) : sD s = x ∧ sK s = by8 (px T) ∧ sE s = 0 := by
  subst hr; subst hT; subst hx
  exact ⟨sD_od h he, sK_eq h, if_neg h⟩
theorem verB_3 {key : Nat → Nat} {msg sig : List UInt8} (h1 : pz (liftP (pr key 0 32)) = false) (h2 : sig.length = 64) (h3 : pr (byt (sig.drop 32)) 0 32 < Nord) : verB key msg sig = vRest key msg sig := by
  unfold verB
  rw [if_neg (by rintro (h | h); rw [h1] at h; cases h; exact h h2), if_neg (by simpa using h3)]
/-- the document's point -/
theorem vPt_ref (key : Nat → Nat) (msg sig : List UInt8) : (EM.nmul (rdN (byt (sig.drop 32))) Gp).add (EM.nmul (chal (byt (sig.take 32)) key msg) (liftP (pr key 0 32))).neg = vPt key msg sig := by
  unfold vPt; rw [nmul_ng (lift_on _)]
/-- a signature -/
def sgS (s k : Nat) (msg : List UInt8) : Nat := (sD k + chal (sK k) (sK s) msg * sD s % Nord) % Nord
theorem sgS_lt (s k : Nat) (msg : List UInt8) : sgS s k msg < Nord := mN _
def sgB (s k : Nat) (msg : List UInt8) : List UInt8 := if sE s = 0 ∧ sE k = 0 then btl 32 (sK k) ++ btl 32 (by8 (sgS s k msg)) else []
def sgE (s k : Nat) : Nat := if sE s = 0 ∧ sE k = 0 then 0 else 1
theorem sgB_yes {s k : Nat} (msg : List UInt8) (h : sE s = 0) (h2 : sE k = 0) : sgB s k msg = btl 32 (sK k) ++ btl 32 (by8 (sgS s k msg)) ∧ sgE s k = 0 := ⟨if_pos ⟨h, h2⟩, if_pos ⟨h, h2⟩⟩
theorem sgB_no {s k : Nat} (msg : List UInt8) (h : ¬ (sE s = 0 ∧ sE k = 0)) : sgB s k msg = [] ∧ sgE s k = 1 := ⟨if_neg h, if_neg h⟩
theorem sgB_len (s k : Nat) (msg : List UInt8) : (sgB s k msg).length ≤ 64 := by
  unfold sgB
  split
  · simp [btl_len]
  · simp
theorem verB_sign {s k : Nat} {msg : List UInt8} (hs : sE s = 0) (hk : sE k = 0) : verB (sK s) msg (sgB s k msg) = true := by
  have h1 := sE_0 hs
  have h2 := sE_0 hk
  rw [(sgB_yes msg hs hk).1]
  have ht : (btl 32 (sK k) ++ btl 32 (by8 (sgS s k msg))).take 32 = btl 32 (sK k) := by
    rw [List.take_append_of_le_length (by rw [btl_len]; exact Nat.le_refl _), List.take_of_length_le (by rw [btl_len]; exact Nat.le_refl _)]
  have hd : (btl 32 (sK k) ++ btl 32 (by8 (sgS s k msg))).drop 32 = btl 32 (by8 (sgS s k msg)) := by
    rw [List.drop_append_of_le_length (by rw [btl_len]; exact Nat.le_refl _), List.drop_eq_nil_of_le (by rw [btl_len]; exact Nat.le_refl _)]; rfl
  have hS : pr (byt (btl 32 (by8 (sgS s k msg)))) 0 32 = sgS s k msg := by
    rw [pr_congr0 fun j hj => byt_btl hj (by8_lt _ _), pr_by8_all (Nat.lt_trans (sgS_lt s k msg) Nord_lt)]
  rw [verB_3 (by rw [sK_lift h1]; exact (sP_ev h1).2.2) (by simp [btl_len]) (by rw [hd, hS]; exact sgS_lt s k msg)]
  have hp : vPt (sK s) msg (btl 32 (sK k) ++ btl 32 (by8 (sgS s k msg))) = EM.nmul (sD k) Gp := by
    unfold vPt
    rw [ht, hd, rdN_yes (by rw [hS]; exact sgS_lt s k msg), hS, sK_lift h1]
    have hc : chal (byt (btl 32 (sK k))) (sK s) msg = chal (sK k) (sK s) msg := by
      unfold chal; rw [btl_byt (btl_len 32 _)]
    rw [hc]
    exact sign_eq s k _
  unfold vRest
  rw [hp, (sP_ev h2).1, ht]
  rw [Bool.true_and, eqF_iff]
  intro j hj
  rw [(sP_ev h2).2.1, byt_btl hj (sK_lt k j), sK_eq h2]
theorem verB_short {key : Nat → Nat} {msg sig : List UInt8} (h : sig.length ≠ 64) : verB key msg sig = false := verB_1 (.inr h)
theorem sg_err {s k : Nat} (msg : List UInt8) (h : sgE s k ≠ 0) : sgB s k msg = [] ∧ sgE s k = 1 := by
  by_cases e : sE s = 0 ∧ sE k = 0
  · exact absurd (if_pos e) h
  · exact sgB_no msg e
theorem sg_ok {s k : Nat} (h : sgE s k = 0) : sE s = 0 ∧ sE k = 0 := by
  by_cases e : sE s = 0 ∧ sE k = 0
  · exact e
  · rw [(sgB_no [] e).2] at h; cases h
theorem sg_64 {s k : Nat} (msg : List UInt8) (h : sgE s k = 0) : (sgB s k msg).length = 64 := by
  rw [(sgB_yes msg (sg_ok h).1 (sg_ok h).2).1]; simp [btl_len]
theorem sg_sign {s k : Nat} (msg : List UInt8) (h : sgE s k = 0) : verB (sK s) msg (sgB s k msg) = true := verB_sign (sg_ok h).1 (sg_ok h).2
theorem sK_one : sK 1 = by8 (px Gp) := by
  have h1 : 1 % Nord = 1 := Nat.mod_eq_of_lt (by decide)
  rw [sK_eq (by rw [h1]; decide), h1, nmul_one']
/-- turned keys -/
def tuB (inner : Nat → Nat) (root : List UInt8) : Nat → Nat := tagH tuTag (btl 32 inner ++ root)
theorem tuB_lt (inner : Nat → Nat) (root : List UInt8) (j : Nat) : tuB inner root j < 256 := tagH_lt _ _ _
def tuQ (inner : Nat → Nat) (root : List UInt8) : EM.Pt Pf := (liftP (pr inner 0 32)).add (EM.nmul (rdN (tuB inner root)) Gp)
theorem tuQ_on (inner : Nat → Nat) (root : List UInt8) : (tuQ inner root).on := EM.on_add Pf_good (lift_on _) (EM.on_nmul Pf_good _ Gp_on)
theorem tuQ_both (inner : Nat → Nat) (root : List UInt8) : (EM.nmul 1 (liftP (pr inner 0 32))).add (EM.nmul (rdN (tuB inner root)) Gp) = tuQ inner root := by rw [nmul_one']; rfl
def tuOk (inner : Nat → Nat) (root : List UInt8) : Prop := pz (liftP (pr inner 0 32)) = false ∧ pr (tuB inner root) 0 32 < Nord ∧ pz (tuQ inner root) = false
instance (inner : Nat → Nat) (root : List UInt8) : Decidable (tuOk inner root) := by unfold tuOk; exact inferInstance
def tuK (inner : Nat → Nat) (root : List UInt8) : Nat → Nat := if tuOk inner root then by8 (px (tuQ inner root)) else fun _ => 0
def tuO (inner : Nat → Nat) (root : List UInt8) : Bool := if tuOk inner root then !evB (tuQ inner root) else false
def tuE (inner : Nat → Nat) (root : List UInt8) : Nat := if tuOk inner root then 0 else 1
theorem tu_yes {inner : Nat → Nat} {root : List UInt8} (h : tuOk inner root) : tuK inner root = by8 (px (tuQ inner root)) ∧ tuO inner root = (!evB (tuQ inner root)) ∧ tuE inner root = 0 := ⟨if_pos h, if_pos h, if_pos h⟩
theorem tu_no {inner : Nat → Nat} {root : List UInt8} (h : ¬ tuOk inner root) : tuK inner root = (fun _ => 0) ∧ tuO inner root = false ∧ tuE inner root = 1 := ⟨if_neg h, if_neg h, if_neg h⟩
theorem tuK_lt (inner : Nat → Nat) (root : List UInt8) (j : Nat) : tuK inner root j < 256 := by
  unfold tuK; split
  · exact by8_lt _ _
  · show 0 < 256; decide
theorem tuE_0 {inner : Nat → Nat} {root : List UInt8} (h : tuE inner root = 0) : tuOk inner root := by
  by_cases e : tuOk inner root
  · exact e
  · rw [(tu_no e).2.2] at h; cases h
/-- a turned secret -/
def tsQ (s : Nat) (root : List UInt8) : Nat := (sD s + rdN (tuB (sK s) root)) % Nord
theorem tsQ_lt (s : Nat) (root : List UInt8) : tsQ s root < 2 ^ 256 := mN256 _
def tsOk (s : Nat) (root : List UInt8) : Prop := sE s = 0 ∧ pr (tuB (sK s) root) 0 32 < Nord ∧ ¬ tsQ s root = 0
instance (s : Nat) (root : List UInt8) : Decidable (tsOk s root) := by unfold tsOk; exact inferInstance
def tsV (s : Nat) (root : List UInt8) : Nat := if tsOk s root then tsQ s root else 0
def tsE (s : Nat) (root : List UInt8) : Nat := if tsOk s root then 0 else 1
theorem ts_yes {s : Nat} {root : List UInt8} (h : tsOk s root) : tsV s root = tsQ s root ∧ tsE s root = 0 := ⟨if_pos h, if_pos h⟩
theorem ts_no {s : Nat} {root : List UInt8} (h : ¬ tsOk s root) : tsV s root = 0 ∧ tsE s root = 1 := ⟨if_neg h, if_neg h⟩
theorem tsV_lt (s : Nat) (root : List UInt8) : tsV s root < 2 ^ 256 := by
  unfold tsV; split
  · exact tsQ_lt _ _
  · decide
theorem tsE_0 {s : Nat} {root : List UInt8} (h : tsE s root = 0) : tsOk s root := by
  by_cases e : tsOk s root
  · exact e
  · rw [(ts_no e).2] at h; cases h
theorem ts_err {s : Nat} {root : List UInt8} (h : tsE s root ≠ 0 ∨ sE s ≠ 0) : tsV s root = 0 ∧ tsE s root = 1 := by
  by_cases e : tsOk s root
  · rcases h with h | h
    · exact absurd (ts_yes e).2 h
    · exact absurd e.1 h
  · exact ts_no e
/-- the key of a turned secret is the turned key -/
theorem turned_key {s : Nat} {root : List UInt8} (h : tsE s root = 0) : tuE (sK s) root = 0 ∧ sE (tsV s root) = 0 ∧ tuK (sK s) root = sK (tsV s root) := by
  obtain ⟨h1, h2, h3⟩ := tsE_0 h
  have hs := sE_0 h1
  have hv : tsV s root = tsQ s root := (ts_yes (tsE_0 h)).1
  have hm : tsQ s root % Nord = tsQ s root := Nat.mod_mod _ _
  have hq0 : ¬ tsQ s root % Nord = 0 := by rw [hm]; exact h3
  have hQ : tuQ (sK s) root = EM.nmul (tsQ s root) Gp := by
    unfold tuQ tsQ
    rw [sK_lift hs, nmul_mod Gp_on, EM.nmul_add Pf_good _ Gp_on]
  have hok : tuOk (sK s) root := ⟨by rw [sK_lift hs]; exact (sP_ev hs).2.2, h2, by rw [hQ]; exact nG_pz hq0⟩
  refine ⟨(tu_yes hok).2.2, ?_, ?_⟩
  · rw [hv]; exact if_neg hq0
  · rw [(tu_yes hok).1, hv, sK_eq hq0, hQ, hm]
end Go.Proofs.Ytejbajgpiecjcaa

/- Operations on arrays of bytes and rows of byte strings; what schnorr's walks want besides. -/
namespace Go.Proofs.Ytejbajgpiecjcaa
open Go.RowKit
section
variable {P : Program}
/-- '==' on arrays of bytes, as a decision -/
theorem eqlAtD {T E : TypeId} {κ : IntKind} {n : Nat} {f g : Nat → Nat} {b : Bool} {z : Value} {bytes : Nat} (hu : P.underlying T = some (.array n E)) (he : P.underlying E = some (.int κ)) (hI : Inf P E z 1 bytes) (hc : P.cellsOf E = 1) (ha : ∀ w, (isAgg E).run P w = .ok false w)
    (hb : eqF n f g = b) (w : World) : (binOp .eql T (At κ n f) (At κ n g)).run P w = .ok (.bool b) w := by
  obtain ⟨i, hi, _⟩ := hI
  have key : ∀ (l : List Nat), (∀ j ∈ l, j < n) → (Op.eqItems 9999 E 1 (tab κ n f).toArray (tab κ n g).toArray l).run P w = .ok (l.all fun j => f j == g j) w := by
    intro l
    induction l with
    | nil => intro _; simp [Op.eqItems]
    | cons j l ih =>
      intro hl
      have hj := hl j (List.mem_cons_self ..)
      have hp : ∀ f : Nat → Nat, (part E (tab κ n f).toArray (j * 1)).run P w = .ok (.int κ (f j : Int)) w := by
        intro f
        have hg : ((tab κ n f).toArray)[j * 1]? = some (.int κ (f j : Int)) := by
          have := tab_get (k := κ) (f := f) hj
          simpa using this
        simp only [part, Sem.run_bind, ha, Result.andThen_ok, hg]
        simp
      simp only [Op.eqItems, Sem.run_bind, hp, Result.andThen_ok, run_equalIn_int (P := P) w 9998 E κ κ _ _ he, List.all_cons]
      by_cases hfg : f j = g j
      · rw [hfg]
        have hih := ih fun j' hj' => hl j' (List.mem_cons_of_mem _ hj')
        simp [hih]
      · have h1 : ((f j : Int) == (g j : Int)) = false := by
          rw [beq_eq_false_iff_ne]; omega
        simp [h1, hfg]
  have h2 := run_equalIn_array (P := P) w 9999 (tab κ n f).toArray (tab κ n g).toArray hu hi
  rw [hc, key _ fun j hj => List.mem_range.1 hj] at h2
  unfold eqF at hb
  rw [hb] at h2
  simp only [binOp, At, Sem.run_bind, Op.equal, Op.maxDepth, h2, Result.andThen_ok, Sem.run_pure]
end
theorem eqF_self {n : Nat} {f : Nat → Nat} : eqF n f f = true := eqF_iff.2 fun _ _ => rfl
section
variable {P : Program} {Q : Exit → Act → World → Prop} {K : Act → World → Prop} {a : Act} {w : World} {o : Oper} {n : Nat} {w0 : Bs} {fs : List Sl} {bs : List Bl}
/-- a slice as an array -/
theorem op_s2ap (hs : St n w0 fs bs a w) (m : Option Nat) (k : Nat) {T E : TypeId} {x : Operand} {ad : Option Addr} {N c M : Nat} {cs : List Value} {d : Nat} (ho : o.op = .sliceToArrayPointer T x) (hd : o.dst = some d) (hx : ev fs x = some (.slice ad N c))
    (hk : rowAt w0.S k = some (.slice ad N c, N, cs)) (hu : P.underlying T = some (.array M E)) (hM : 0 < M) (hN : M ≤ N) (hok : okf m fs d n = true)
    (h : ∀ a', St n w0 (putf m fs d (vidx (.slice ad N c) 0)) bs a' w → K a' w) : o.wp P a w K Q := by
  obtain ⟨ad', c', e, hNc, _, hn, _⟩ := hs.row hk
  obtain ⟨rfl, rfl⟩ : ad = ad' ∧ c = c' := by simpa using e
  have hp : ∃ p, ad = some p := by
    cases ad with
    | none => have := hn rfl; omega
    | some p => exact ⟨p, rfl⟩
  obtain ⟨p, rfl⟩ := hp
  refine op_val hs m hd hok ?_ h
  unfold execOp
  rw [ho]
  have hlt : ¬ N < M := by omega
  have h0 : p.add 0 = p := by cases p; simp [Addr.add]
  simp [hs.ev hx, Instr.arrayAt, Sem.run_bind, run_underlying hu, Result.andThen, hlt, vidx, h0]
theorem ldv_byt {l : List UInt8} {N : Nat} (h : l.length = N) : ldv true N (bcs l) 0 = some (At .u8 N (byt l)) := by
  have e : bcs l = tab .u8 N (byt l) := by
    apply List.ext_getElem?
    intro j
    by_cases hj : j < l.length
    · rw [bcs_get hj, tab_get (by omega)]
    · rw [List.getElem?_eq_none (by rw [bcs_length]; omega), List.getElem?_eq_none (by rw [tab_length]; omega)]
  rw [e]; exact ldv_tab
/-- a literal row that stays as it is -/
theorem op_bsC (hs : St n w0 fs bs a w) (m ms : Option Nat) {T E : TypeId} {ps : Array (Nat × Operand)} {l : Nat} {qs : List (Nat × Value)} {z : Value} {size bytes : Nat} {cs cs' : List Value} {d : Nat} (ho : o.op = .buildSlice T l ps) (hd : o.dst = some d)
    (hx : evs fs (ps.toList.map (·.2)) = some (qs.map (·.2))) (hi : ps.toList.map (·.1) = qs.map (·.1)) (hu : P.underlying T = some (.slice E)) (hI : Inf P E z size bytes) (hl : l * size ≤ 1000) (hl0 : 0 < l * size)
    (hf : Instr.fill (fun i => some (i * size, size)) ((Array.range (l * size)).map (z.cells[· % z.cells.size]!)) qs = some cs.toArray) (hlen : cs.length = l * size) (hc : cs = cs') (hokS : okS ms w0.S 1 = true) (hok : okf m fs d n = true)
    (h : ∀ a' act w', St n (w0.withS (putS ms w0.S [.cel (.slice a' l l) l cs'])) (putf m fs d (.slice a' l l)) bs act w' → K act w') : o.wp P a w K Q := by
  subst hc
  obtain ⟨ie, hie, hz, hs1, _⟩ := hI
  have hmax : (1000001 : Nat) ≤ maxLen := by decide
  have hsz : 1 ≤ size := by
    rcases Nat.eq_zero_or_pos size with h0 | h0
    · rw [h0, Nat.mul_zero] at hl0; omega
    · exact h0
  have hll : l ≤ 1000 := Nat.le_trans (by have := Nat.mul_le_mul_left l hsz; omega) hl
  have hm : ps.map (fun (p : Nat × Operand) => (p.1, a.eval p.2)) = qs.toArray := by
    have h1 := hs.evs hx
    apply Array.ext'
    simp only [Array.toList_map]
    rw [List.map_map] at h1
    apply List.ext_getElem?
    intro j
    have e1 := congrArg (·[j]?) h1
    have e2 := congrArg (·[j]?) hi
    simp only [List.getElem?_map] at e1 e2 ⊢
    cases hp : ps.toList[j]? with
    | none =>
      rw [hp] at e1
      cases hq : qs[j]? with
      | none => rfl
      | some q => rw [hq] at e1; simp at e1
    | some p =>
      rw [hp] at e1 e2
      cases hq : qs[j]? with
      | none => rw [hq] at e1; simp at e1
      | some q =>
        rw [hq] at e1 e2
        simp at e1 e2
        simp [e1, e2]
  have hrun := run_buildSlice (P := P) w T E l qs.toArray _ ie z hu hie hz (by rw [hs1]; omega) (by rw [hs1]; omega) (by rw [hs1]; exact hf)
  unfold Oper.wp execOp
  rw [ho]
  simp only [hm, Sem.run_bind, hrun, Result.andThen_ok, Sem.run_pure, Oper.upon_value, hd]
  have hat : (w.alloc (.cells cs.toArray E)).heap[w.heap.size]? = some (.cells cs.toArray E (0, 0)) := heap_alloc_at w _
  have hbl : Below w.heap.size w (w.alloc (.cells cs.toArray E)) := (Below.refl _ _).alloc (Nat.le_refl _) _
  exact h _ _ _ ((hs.addS hokS hbl (okl1z (e := .cel _ _ _) ⟨_, _, rfl, Nat.le_refl _, by omega, (fun h => by cases h), fun j u hu => ⟨w.heap.size, 0, rfl, .inr (.inl (Nat.le_refl _)), by
    rw [Nat.zero_add, cell_of_row _ w.heap.size j _ E _ hat]; simpa using hu⟩⟩)).put hok _)
end
/-- the bytes of a string so far -/
def bytT (l : List UInt8) (i j : Nat) : Nat := if j < i then byt l j else 0
theorem bytT_zero (l : List UInt8) (j : Nat) : 0 = bytT l 0 j := by unfold bytT; rw [if_neg (by omega)]
theorem bytT_lt (l : List UInt8) (i j : Nat) : bytT l i j < 256 := by unfold bytT; split; exact byt_lt _ _; decide
theorem bytT_step (l : List UInt8) (i j : Nat) : upn (bytT l i) i (byt l i) j = bytT l (i + 1) j := by
  unfold upn bytT
  by_cases e : j = i
  · subst e; rw [if_pos rfl, if_pos (by omega)]
  · rw [if_neg e]
    by_cases h2 : j < i
    · rw [if_pos h2, if_pos (by omega)]
    · rw [if_neg h2, if_neg (by omega)]
theorem bytT_end {l : List UInt8} {i : Nat} (h : ¬ i < l.length) (j : Nat) : bytT l i j = byt l j := by
  unfold bytT
  split
  · rfl
  · rename_i h2
    unfold byt
    rw [List.getD_eq_getElem?_getD, List.getElem?_eq_none (by omega)]; rfl
theorem bys0 {w : World} {Z : Nat → Prop} : BysV w Z [] [] := ⟨rfl, fun i v l h => by simp at h⟩
theorem bysC {w : World} {Z : Nat → Prop} {v : Value} {l : List UInt8} {vs : List Value} {ls : List (List UInt8)} (h : ByV w Z v l) (hs : BysV w Z vs ls) : BysV w Z (v :: vs) (l :: ls) := by
  refine ⟨by simp [hs.1], fun i u k hu hk => ?_⟩
  cases i with
  | zero =>
    obtain rfl : v = u := by simpa using hu
    obtain rfl : l = k := by simpa using hk
    exact h
  | succ i => exact hs.2 i u k (by simpa using hu) (by simpa using hk)
/-- byte strings one behind the other -/
theorem flat_take {ls : List (List UInt8)} {i : Nat} {l : List UInt8} (h : ls[i]? = some l) : (ls.take (i + 1)).flatten = (ls.take i).flatten ++ l := by
  rw [List.take_add_one, h]; simp
theorem flat_le (ls : List (List UInt8)) (i : Nat) : ((ls.take i).flatten).length ≤ ls.flatten.length := by
  have : ls.flatten = (ls.take i).flatten ++ (ls.drop i).flatten := by rw [← List.flatten_append, List.take_append_drop]
  rw [this, List.length_append]; omega
theorem flat_end {ls : List (List UInt8)} {i : Nat} (h : ¬ i < ls.length) : (ls.take i).flatten = ls.flatten := by rw [List.take_of_length_le (by omega)]
end Go.Proofs.Ytejbajgpiecjcaa

/- The contracts of scalar.Order, over, Reduce, Add, Neg. -/
namespace Go.Proofs.Ytejbajgpiecjcaa
open Go.RowKit

theorem modN_lt (a : Nat) : a % Nord < 2 ^ 256 := Nat.lt_trans (Nat.mod_lt _ (by decide)) Nord_lt
set_option maxRecDepth 10000

theorem order_c  (w0 : World) : Calls Try.prog 40 #[] w0 fun e w' => e = .returned (W Nord) ∧ Below w0.heap.size w0 w' := by
  refine enter (n := 2) (args := []) Try.func40 rfl rfl (Nat.le_of_ble_eq_true rfl) fun ac hs => ?_
  refine wp_seq ?_
  refine wp_region_lit ?_
  refine lstep (wpO_plain rfl (op_alloc hs none none (cs := [.int .u64 0, .int .u64 0, .int .u64 0, .int .u64 0]) rfl rfl Try.zeroValue24 (by kernel_rfl) rfl rfl fun g1 ac w hs => ?_))
  refine wpList_nil ?_
  refine then_n ?_
  refine wp_seq ?_
  refine wp_region_lit ?_
  refine lstep (wpO_plain rfl (op_build hs none (qs := [(0, .int .u64 13822214165235122497), (1, .int .u64 13451932020343611451), (2, .int .u64 18446744073709551614), (3, .int .u64 18446744073709551615)]) (v := .agg #[.int .u64 13822214165235122497, .int .u64 13451932020343611451, .int .u64 18446744073709551614, .int .u64 18446744073709551615]) rfl rfl rfl rfl (fun _ => by kernel_rfl) rfl fun ac hs => ?_))
  refine lstep (wpO_plain rfl (op_store hs 0 (vs := [.int .u64 13822214165235122497, .int .u64 13451932020343611451, .int .u64 18446744073709551614, .int .u64 18446744073709551615]) rfl rfl rfl rfl rfl Try.sizeOf24 rfl rfl rfl rfl rfl fun w hs => ?_))
  refine wpList_nil ?_
  refine then_n ?_
  refine wp_ret ?_
  exact bodyPost_ret (res1 rfl (rv_c hs 0 (v := .agg #[.int .u64 13822214165235122497, .int .u64 13451932020343611451, .int .u64 18446744073709551614, .int .u64 18446744073709551615]) rfl rfl Try.isAgg24 Try.sizeOf24 rfl)) hs.defers ⟨by kernel_rfl, (hs.bel rfl)⟩
theorem over_c  (w0 : World) : Calls Try.prog 30 #[] w0 fun e w' => e = .returned (W Nov) ∧ Below w0.heap.size w0 w' := by
  refine enter (n := 10) (args := []) Try.func30 rfl rfl (Nat.le_of_ble_eq_true rfl) fun ac hs => ?_
  refine wp_seq ?_
  refine wp_region_lit ?_
  refine lstep (wpO_plain rfl (op_alloc hs none none (cs := [.int .u64 0, .int .u64 0, .int .u64 0, .int .u64 0]) rfl rfl Try.zeroValue24 (by kernel_rfl) rfl rfl fun g1 ac w hs => ?_))
  refine wpList_nil ?_
  refine then_n ?_
  refine wp_seq ?_
  refine wp_region_lit ?_
  refine lstep (wpO_plain rfl (op_build hs none (qs := []) (v := .agg #[.int .u64 0, .int .u64 0, .int .u64 0, .int .u64 0]) rfl rfl rfl rfl (fun _ => by kernel_rfl) rfl fun ac hs => ?_))
  refine lstep (wpO_plain rfl (op_call (F := 40) hs none (v := W Nord) rfl rfl rfl rfl (Try.call40 _) order_c rfl fun ac w hs => ?_))
  obtain ⟨d2, hd2, ld2⟩ : ∃ z0, (0 + 2 ^ 256 - Nord) % 2 ^ 256 = z0 ∧ z0 < 2 ^ 256 := ⟨_, rfl, Nat.mod_lt _ (Nat.two_pow_pos 256)⟩
  obtain ⟨c3, hc3⟩ : ∃ z0, bor 0 Nord = z0 := ⟨_, rfl⟩
  refine lstep (wpO_plain rfl (op_call (F := 41) hs none (v := .tuple #[W d2, .int .u64 ((c3 : Nat) : Int)]) rfl rfl rfl rfl (Try.call41 _) (fun w => sub_at w 0 Nord d2 c3 (by decide) Nord_lt hd2 hc3) rfl fun ac w hs => ?_))
  refine lstep (wpO_plain rfl (op_move hs none rfl rfl rfl rfl fun ac hs => ?_))
  refine lstep (wpO_plain rfl (op_extract hs none rfl rfl rfl rfl rfl fun ac hs => ?_))
  refine lstep (wpO_plain rfl (op_extract hs none rfl rfl rfl rfl rfl fun ac hs => ?_))
  refine lstep (wpO_plain rfl (op_alloc hs none none (cs := [.int .u64 0, .int .u64 0, .int .u64 0, .int .u64 0]) rfl rfl Try.zeroValue24 (by kernel_rfl) rfl rfl fun g4 ac w hs => ?_))
  refine lstep (wpO_plain rfl (op_store hs 1 (vs := (Wl d2)) rfl rfl rfl rfl rfl Try.sizeOf24 rfl rfl rfl rfl rfl fun w hs => ?_))
  refine lstep (wpO_plain rfl (op_assign hs none rfl rfl rfl rfl fun ac hs => ?_))
  refine wpList_nil ?_
  refine then_n ?_
  refine wp_seq ?_
  replace hs : St 10 w0 [(0, true, .pointer (some ⟨g1, 0, none⟩)), (1, true, .pointer (some ⟨g4, 0, none⟩))] [(true, g1, 24, [.int .u64 0, .int .u64 0, .int .u64 0, .int .u64 0]), (true, g4, 24, (Wl d2))] ac _ := hs.re ⟨rfl, rfl, trivial⟩
  refine wp_region_lit ?_
  refine lstep (wpO_plain rfl (op_load hs none 1 (v := W d2) rfl rfl rfl rfl Try.isAgg24 Try.sizeOf24 rfl rfl fun ac hs => ?_))
  refine lstep (wpO_plain rfl (op_store hs 0 (vs := (Wl d2)) rfl rfl rfl rfl rfl Try.sizeOf24 rfl rfl rfl rfl rfl fun w hs => ?_))
  refine wpList_nil ?_
  refine then_n ?_
  refine wp_ret ?_
  exact bodyPost_ret (res1 rfl (rv_c hs 0 (v := W d2) rfl rfl Try.isAgg24 Try.sizeOf24 rfl)) hs.defers ⟨by rw [show d2 = Nov from hd2.symm.trans (by decide)], (hs.bel rfl)⟩
theorem red_c (a x : Nat) (ha : a < 2 ^ 256) (hx : a % Nord = x) (w0 : World) : Calls Try.prog 27 #[W a] w0 fun e w' => e = .returned (W x) ∧ Below w0.heap.size w0 w' := by
  refine enter (n := 15) (args := [W a]) Try.func27 rfl rfl (Nat.le_of_ble_eq_true rfl) fun ac hs => ?_
  refine wp_seq ?_
  refine wp_region_lit ?_
  refine lstep (wpO_plain rfl (op_box hs none none (cs := (Wl a)) rfl rfl rfl rfl rfl rfl fun g1 ac w hs => ?_))
  refine lstep (wpO_plain rfl (op_alloc hs none none (cs := [.int .u64 0, .int .u64 0, .int .u64 0, .int .u64 0]) rfl rfl Try.zeroValue24 (by kernel_rfl) rfl rfl fun g2 ac w hs => ?_))
  refine wpList_nil ?_
  refine then_n ?_
  refine wp_seq ?_
  refine wp_seq ?_
  replace hs : St 15 w0 [(1, true, .pointer (some ⟨g1, 0, none⟩)), (2, true, .pointer (some ⟨g2, 0, none⟩))] [(true, g1, 24, (Wl a)), (true, g2, 24, [.int .u64 0, .int .u64 0, .int .u64 0, .int .u64 0])] ac _ := hs.re ⟨rfl, rfl, trivial⟩
  obtain ⟨d3, hd3, ld3⟩ : ∃ z0, (a + 2 ^ 256 - Nord) % 2 ^ 256 = z0 ∧ z0 < 2 ^ 256 := ⟨_, rfl, Nat.mod_lt _ (Nat.two_pow_pos 256)⟩
  obtain ⟨c4, hc4⟩ : ∃ z0, bor a Nord = z0 := ⟨_, rfl⟩
  refine region_inv [([], [2, 3, 4, 5, 7, 8]), ([], [2, 3, 4, 5, 7, 8]), ([0, 1], [3, 4, 5, 7, 8]), ([0, 1, 2], [4, 5, 7, 8]), ([0, 1, 2, 3], [7, 8]), ([0, 1, 2, 3], [8]), ([], [7, 8]), ([0, 1, 2, 3, 4, 6], [8]), ([0, 1, 2, 3, 4, 5, 6, 7], [])] (fun L ac w => ∃ (g5 : Nat), St 15 w0 [(6, L 0, W a), (7, L 1, W Nord), (8, L 2, .tuple #[W d3, .int .u64 ((c4 : Nat) : Int)]), (5, L 3, .tuple #[W d3, .int .u64 ((c4 : Nat) : Int)]), (9, L 4, W d3), (10, L 5, .int .u64 ((c4 : Nat) : Int)), (3, L 6, .pointer (some ⟨g5, 0, none⟩)), (4, L 8, .int .u64 ((c4 : Nat) : Int)), (1, true, .pointer (some ⟨g1, 0, none⟩)), (2, true, .pointer (some ⟨g2, 0, none⟩))] [(true, g1, 24, (Wl a)), (true, g2, 24, [.int .u64 0, .int .u64 0, .int .u64 0, .int .u64 0]), (L 6, g5, 24, (cond (L 7) (Wl d3) [.int .u64 0, .int .u64 0, .int .u64 0, .int .u64 0]))] ac w) (by kernel_rfl) (by kernel_rfl) ?_ ?_ ?_
  · exact ⟨0, hs.drew.skip.skip.skip.skip.skip.skip.skip.skip.pad⟩
  · refine ⟨?_, ?_, ?_, ?_, ?_, ?_, ?_, ?_, ?_, trivial⟩
    · intro L ac w hJ
      obtain ⟨g5, hs⟩ := hJ
      refine wpO_plain rfl (op_load hs (some 0) 0 (v := W a) rfl rfl rfl rfl Try.isAgg24 Try.sizeOf24 rfl rfl fun ac hs => ?_)
      exact ⟨g5, hs⟩
    · intro L ac w hJ
      obtain ⟨g5, hs⟩ := hJ
      refine wpO_plain rfl (op_call (F := 40) hs (some 1) (v := W Nord) rfl rfl rfl rfl (Try.call40 _) order_c rfl fun ac w hs => ?_)
      exact ⟨g5, hs⟩
    · intro L ac w hJ
      obtain ⟨g5, hs⟩ := hJ
      refine wpO_plain rfl (op_call (F := 41) hs (some 2) (v := .tuple #[W d3, .int .u64 ((c4 : Nat) : Int)]) rfl rfl rfl rfl (Try.call41 _) (fun w => sub_at w a Nord d3 c4 ha Nord_lt hd3 hc4) rfl fun ac w hs => ?_)
      exact ⟨g5, hs⟩
    · intro L ac w hJ
      obtain ⟨g5, hs⟩ := hJ
      refine wpO_plain rfl (op_move hs (some 3) rfl rfl rfl rfl fun ac hs => ?_)
      exact ⟨g5, hs⟩
    · intro L ac w hJ
      obtain ⟨g5, hs⟩ := hJ
      refine wpO_plain rfl (op_extract hs (some 4) rfl rfl rfl rfl rfl fun ac hs => ?_)
      exact ⟨g5, hs⟩
    · intro L ac w hJ
      obtain ⟨g5, hs⟩ := hJ
      refine wpO_plain rfl (op_extract hs (some 5) rfl rfl rfl rfl rfl fun ac hs => ?_)
      exact ⟨g5, hs⟩
    · intro L ac w hJ
      obtain ⟨g5, hs⟩ := hJ
      refine wpO_plain rfl (op_alloc hs (some 6) (some 2) (cs := [.int .u64 0, .int .u64 0, .int .u64 0, .int .u64 0]) rfl rfl Try.zeroValue24 (by kernel_rfl) rfl rfl fun g5 ac w hs => ?_)
      exact ⟨g5, hs⟩
    · intro L ac w hJ
      obtain ⟨g5, hs⟩ := hJ
      refine wpO_plain rfl (op_store hs 2 (vs := (Wl d3)) rfl rfl rfl rfl rfl Try.sizeOf24 rfl rfl rfl rfl rfl fun w hs => ?_)
      exact ⟨g5, hs⟩
    · intro L ac w hJ
      obtain ⟨g5, hs⟩ := hJ
      refine wpO_plain rfl (op_assign hs (some 7) rfl rfl rfl rfl fun ac hs => ?_)
      exact ⟨g5, hs⟩
  intro ac w hJ
  obtain ⟨g5, hs⟩ := hJ
  replace hs : St 15 w0 [(6, true, W a), (7, true, W Nord), (8, true, .tuple #[W d3, .int .u64 ((c4 : Nat) : Int)]), (5, true, .tuple #[W d3, .int .u64 ((c4 : Nat) : Int)]), (9, true, W d3), (10, true, .int .u64 ((c4 : Nat) : Int)), (3, true, .pointer (some ⟨g5, 0, none⟩)), (4, true, .int .u64 ((c4 : Nat) : Int)), (1, true, .pointer (some ⟨g1, 0, none⟩)), (2, true, .pointer (some ⟨g2, 0, none⟩))] [(true, g1, 24, (Wl a)), (true, g2, 24, [.int .u64 0, .int .u64 0, .int .u64 0, .int .u64 0]), (true, g5, 24, (Wl d3))] ac w := hs
  refine then_n ?_
  refine wp_seq ?_
  refine wp_region_lit ?_
  refine lstep (wpO_plain rfl (op_move hs none rfl rfl rfl rfl fun ac hs => ?_))
  refine lstep (wpO_plain rfl (op_bin hs none (v := .bool (decide (c4 = 0))) rfl rfl rfl rfl (fun _ => rfl) (bin_eqlN (x := c4) (y := 0)) rfl fun ac hs => ?_))
  refine wpList_nil ?_
  refine then_n ?_
  refine wp_cond_split (hs.ev rfl) (fun hc => ?_) (fun hc => ?_)
  · skip
    have hp6 := of_decide_eq_true hc
    refine wp_seq ?_
    refine wp_region_lit ?_
    refine lstep (wpO_plain rfl (op_load hs none 2 (v := W d3) rfl rfl rfl rfl Try.isAgg24 Try.sizeOf24 rfl rfl fun ac hs => ?_))
    refine lstep (wpO_plain rfl (op_store hs 1 (vs := (Wl d3)) rfl rfl rfl rfl rfl Try.sizeOf24 rfl rfl rfl rfl rfl fun w hs => ?_))
    refine wpList_nil ?_
    refine then_n ?_
    refine wp_ret ?_
    refine then_r ?_
    exact bodyPost_ret (res1 rfl (rv_c hs 1 (v := W d3) rfl rfl Try.isAgg24 Try.sizeOf24 rfl)) hs.defers ⟨by rw [← hx, ← red_yes ha hd3 hc4 hc], (hs.bel rfl)⟩
  · skip
    have hp7 := of_decide_eq_false hc
    refine wp_skip ?_
    refine then_n ?_
    refine wp_seq ?_
    refine wp_region_lit ?_
    refine lstep (wpO_plain rfl (op_load hs none 0 (v := W a) rfl rfl rfl rfl Try.isAgg24 Try.sizeOf24 rfl rfl fun ac hs => ?_))
    refine lstep (wpO_plain rfl (op_store hs 1 (vs := (Wl a)) rfl rfl rfl rfl rfl Try.sizeOf24 rfl rfl rfl rfl rfl fun w hs => ?_))
    refine wpList_nil ?_
    refine then_n ?_
    refine wp_ret ?_
    exact bodyPost_ret (res1 rfl (rv_c hs 1 (v := W a) rfl rfl Try.isAgg24 Try.sizeOf24 rfl)) hs.defers ⟨by rw [← hx, ← red_no hc4 hc], (hs.bel rfl)⟩
theorem sadd_c (a b x : Nat) (ha : a < 2 ^ 256) (hb : b < 2 ^ 256) (hx : (a + b) % Nord = x) (w0 : World) : Calls Try.prog 15 #[W a, W b] w0 fun e w' => e = .returned (W x) ∧ Below w0.heap.size w0 w' := by
  refine enter (n := 25) (args := [W a, W b]) Try.func15 rfl rfl (Nat.le_of_ble_eq_true rfl) fun ac hs => ?_
  refine wp_seq ?_
  refine wp_region_lit ?_
  refine lstep (wpO_plain rfl (op_box hs none none (cs := (Wl a)) rfl rfl rfl rfl rfl rfl fun g1 ac w hs => ?_))
  refine lstep (wpO_plain rfl (op_box hs none none (cs := (Wl b)) rfl rfl rfl rfl rfl rfl fun g2 ac w hs => ?_))
  refine lstep (wpO_plain rfl (op_alloc hs none none (cs := [.int .u64 0, .int .u64 0, .int .u64 0, .int .u64 0]) rfl rfl Try.zeroValue24 (by kernel_rfl) rfl rfl fun g3 ac w hs => ?_))
  refine wpList_nil ?_
  refine then_n ?_
  refine wp_seq ?_
  replace hs : St 25 w0 [(2, true, .pointer (some ⟨g1, 0, none⟩)), (3, true, .pointer (some ⟨g2, 0, none⟩)), (4, true, .pointer (some ⟨g3, 0, none⟩))] [(true, g1, 24, (Wl a)), (true, g2, 24, (Wl b)), (true, g3, 24, [.int .u64 0, .int .u64 0, .int .u64 0, .int .u64 0])] ac _ := hs.re ⟨rfl, rfl, rfl, trivial⟩
  obtain ⟨r4, hr4, lr4⟩ : ∃ z0, a % Nord = z0 ∧ z0 < 2 ^ 256 := ⟨_, rfl, modN_lt _⟩
  obtain ⟨r5, hr5, lr5⟩ : ∃ z0, b % Nord = z0 ∧ z0 < 2 ^ 256 := ⟨_, rfl, modN_lt _⟩
  obtain ⟨s6, hs6, ls6⟩ : ∃ z0, (r4 + r5) % 2 ^ 256 = z0 ∧ z0 < 2 ^ 256 := ⟨_, rfl, Nat.mod_lt _ (Nat.two_pow_pos 256)⟩
  obtain ⟨c7, hc7⟩ : ∃ z0, (r4 + r5) / 2 ^ 256 = z0 := ⟨_, rfl⟩
  refine region_inv [([], [1, 3, 4, 5, 6, 7, 9, 10]), ([0], [3, 4, 5, 6, 7, 9, 10]), ([], [3, 4, 5, 6, 7, 9, 10]), ([0, 1, 2], [4, 5, 6, 7, 9, 10]), ([0, 1, 2, 3], [5, 6, 7, 9, 10]), ([0, 1, 2, 3, 4], [6, 7, 9, 10]), ([0, 1, 2, 3, 4, 5], [9, 10]), ([0, 1, 2, 3, 4, 5], [10]), ([], [9, 10]), ([0, 1, 2, 3, 4, 5, 6, 8], [10]), ([0, 1, 2, 3, 4, 5, 6, 7, 8, 9], [])] (fun L ac w => ∃ (g8 : Nat), St 25 w0 [(8, L 0, W a), (9, L 1, W r4), (10, L 2, W b), (11, L 3, W r5), (12, L 4, .tuple #[W s6, .int .u64 ((c7 : Nat) : Int)]), (7, L 5, .tuple #[W s6, .int .u64 ((c7 : Nat) : Int)]), (13, L 6, W s6), (14, L 7, .int .u64 ((c7 : Nat) : Int)), (5, L 8, .pointer (some ⟨g8, 0, none⟩)), (6, L 10, .int .u64 ((c7 : Nat) : Int)), (2, true, .pointer (some ⟨g1, 0, none⟩)), (3, true, .pointer (some ⟨g2, 0, none⟩)), (4, true, .pointer (some ⟨g3, 0, none⟩))] [(true, g1, 24, (Wl a)), (true, g2, 24, (Wl b)), (true, g3, 24, [.int .u64 0, .int .u64 0, .int .u64 0, .int .u64 0]), (L 8, g8, 24, (cond (L 9) (Wl s6) [.int .u64 0, .int .u64 0, .int .u64 0, .int .u64 0]))] ac w) (by kernel_rfl) (by kernel_rfl) ?_ ?_ ?_
  · exact ⟨0, hs.drew.skip.skip.skip.skip.skip.skip.skip.skip.skip.skip.pad⟩
  · refine ⟨?_, ?_, ?_, ?_, ?_, ?_, ?_, ?_, ?_, ?_, ?_, trivial⟩
    · intro L ac w hJ
      obtain ⟨g8, hs⟩ := hJ
      refine wpO_plain rfl (op_load hs (some 0) 0 (v := W a) rfl rfl rfl rfl Try.isAgg24 Try.sizeOf24 rfl rfl fun ac hs => ?_)
      exact ⟨g8, hs⟩
    · intro L ac w hJ
      obtain ⟨g8, hs⟩ := hJ
      refine wpO_plain rfl (op_call (F := 27) hs (some 1) (v := W r4) rfl rfl rfl rfl (Try.call27 _) (red_c a r4 ha hr4) rfl fun ac w hs => ?_)
      exact ⟨g8, hs⟩
    · intro L ac w hJ
      obtain ⟨g8, hs⟩ := hJ
      refine wpO_plain rfl (op_load hs (some 2) 1 (v := W b) rfl rfl rfl rfl Try.isAgg24 Try.sizeOf24 rfl rfl fun ac hs => ?_)
      exact ⟨g8, hs⟩
    · intro L ac w hJ
      obtain ⟨g8, hs⟩ := hJ
      refine wpO_plain rfl (op_call (F := 27) hs (some 3) (v := W r5) rfl rfl rfl rfl (Try.call27 _) (red_c b r5 hb hr5) rfl fun ac w hs => ?_)
      exact ⟨g8, hs⟩
    · intro L ac w hJ
      obtain ⟨g8, hs⟩ := hJ
      refine wpO_plain rfl (op_call (F := 29) hs (some 4) (v := .tuple #[W s6, .int .u64 ((c7 : Nat) : Int)]) rfl rfl rfl rfl (Try.call29 _) (fun w => add_at w r4 r5 s6 c7 lr4 lr5 hs6 hc7) rfl fun ac w hs => ?_)
      exact ⟨g8, hs⟩
    · intro L ac w hJ
      obtain ⟨g8, hs⟩ := hJ
      refine wpO_plain rfl (op_move hs (some 5) rfl rfl rfl rfl fun ac hs => ?_)
      exact ⟨g8, hs⟩
    · intro L ac w hJ
      obtain ⟨g8, hs⟩ := hJ
      refine wpO_plain rfl (op_extract hs (some 6) rfl rfl rfl rfl rfl fun ac hs => ?_)
      exact ⟨g8, hs⟩
    · intro L ac w hJ
      obtain ⟨g8, hs⟩ := hJ
      refine wpO_plain rfl (op_extract hs (some 7) rfl rfl rfl rfl rfl fun ac hs => ?_)
      exact ⟨g8, hs⟩
    · intro L ac w hJ
      obtain ⟨g8, hs⟩ := hJ
      refine wpO_plain rfl (op_alloc hs (some 8) (some 3) (cs := [.int .u64 0, .int .u64 0, .int .u64 0, .int .u64 0]) rfl rfl Try.zeroValue24 (by kernel_rfl) rfl rfl fun g8 ac w hs => ?_)
      exact ⟨g8, hs⟩
    · intro L ac w hJ
      obtain ⟨g8, hs⟩ := hJ
      refine wpO_plain rfl (op_store hs 3 (vs := (Wl s6)) rfl rfl rfl rfl rfl Try.sizeOf24 rfl rfl rfl rfl rfl fun w hs => ?_)
      exact ⟨g8, hs⟩
    · intro L ac w hJ
      obtain ⟨g8, hs⟩ := hJ
      refine wpO_plain rfl (op_assign hs (some 9) rfl rfl rfl rfl fun ac hs => ?_)
      exact ⟨g8, hs⟩
  intro ac w hJ
  obtain ⟨g8, hs⟩ := hJ
  replace hs : St 25 w0 [(8, true, W a), (9, true, W r4), (10, true, W b), (11, true, W r5), (12, true, .tuple #[W s6, .int .u64 ((c7 : Nat) : Int)]), (7, true, .tuple #[W s6, .int .u64 ((c7 : Nat) : Int)]), (13, true, W s6), (14, true, .int .u64 ((c7 : Nat) : Int)), (5, true, .pointer (some ⟨g8, 0, none⟩)), (6, true, .int .u64 ((c7 : Nat) : Int)), (2, true, .pointer (some ⟨g1, 0, none⟩)), (3, true, .pointer (some ⟨g2, 0, none⟩)), (4, true, .pointer (some ⟨g3, 0, none⟩))] [(true, g1, 24, (Wl a)), (true, g2, 24, (Wl b)), (true, g3, 24, [.int .u64 0, .int .u64 0, .int .u64 0, .int .u64 0]), (true, g8, 24, (Wl s6))] ac w := hs
  refine then_n ?_
  refine wp_seq ?_
  refine wp_seq ?_
  refine wp_region_lit ?_
  refine lstep (wpO_plain rfl (op_move hs none rfl rfl rfl rfl fun ac hs => ?_))
  refine lstep (wpO_plain rfl (op_bin hs none (v := .bool (decide (c7 ≠ 0))) rfl rfl rfl rfl (fun _ => rfl) (bin_neqN (x := c7) (y := 0)) rfl fun ac hs => ?_))
  refine wpList_nil ?_
  refine then_n ?_
  refine wp_cond_split (hs.ev rfl) (fun hc => ?_) (fun hc => ?_)
  · skip
    have hp9 := of_decide_eq_true hc
    replace hs : St 25 w0 [(4, true, .pointer (some ⟨g3, 0, none⟩)), (5, true, .pointer (some ⟨g8, 0, none⟩))] [(true, g1, 24, (Wl a)), (true, g2, 24, (Wl b)), (true, g3, 24, [.int .u64 0, .int .u64 0, .int .u64 0, .int .u64 0]), (true, g8, 24, (Wl s6))] ac _ := hs.re ⟨rfl, rfl, trivial⟩
    obtain ⟨s10, hs10, ls10⟩ : ∃ z0, (s6 + Nov) % 2 ^ 256 = z0 ∧ z0 < 2 ^ 256 := ⟨_, rfl, Nat.mod_lt _ (Nat.two_pow_pos 256)⟩
    obtain ⟨c11, hc11⟩ : ∃ z0, (s6 + Nov) / 2 ^ 256 = z0 := ⟨_, rfl⟩
    refine region_inv [([], [2, 3, 4, 5, 6]), ([], [2, 3, 4, 5, 6]), ([0, 1], [3, 4, 5, 6]), ([0, 1, 2], [4, 5, 6]), ([0, 1, 2, 3], [6]), ([0, 1, 2, 3], []), ([0, 1, 2, 3, 4], [])] (fun L ac w => St 25 w0 [(18, L 0, W s6), (19, L 1, W Nov), (20, L 2, .tuple #[W s10, .int .u64 ((c11 : Nat) : Int)]), (17, L 3, .tuple #[W s10, .int .u64 ((c11 : Nat) : Int)]), (21, L 4, W s10), (22, L 5, .int .u64 ((c11 : Nat) : Int)), (4, true, .pointer (some ⟨g3, 0, none⟩)), (5, true, .pointer (some ⟨g8, 0, none⟩))] [(true, g1, 24, (Wl a)), (true, g2, 24, (Wl b)), (true, g3, 24, [.int .u64 0, .int .u64 0, .int .u64 0, .int .u64 0]), (true, g8, 24, (cond (L 6) (Wl s10) (Wl s6)))] ac w) (by kernel_rfl) (by kernel_rfl) ?_ ?_ ?_
    · exact hs.drew.skip.skip.skip.skip.skip.skip
    · refine ⟨?_, ?_, ?_, ?_, ?_, ?_, ?_, trivial⟩
      · intro L ac w hJ
        have hs := hJ
        refine wpO_plain rfl (op_load hs (some 0) 3 (v := W s6) rfl rfl rfl rfl Try.isAgg24 Try.sizeOf24 rfl rfl fun ac hs => ?_)
        exact hs
      · intro L ac w hJ
        have hs := hJ
        refine wpO_plain rfl (op_call (F := 30) hs (some 1) (v := W Nov) rfl rfl rfl rfl (Try.call30 _) over_c rfl fun ac w hs => ?_)
        exact hs
      · intro L ac w hJ
        have hs := hJ
        refine wpO_plain rfl (op_call (F := 29) hs (some 2) (v := .tuple #[W s10, .int .u64 ((c11 : Nat) : Int)]) rfl rfl rfl rfl (Try.call29 _) (fun w => add_at w s6 Nov s10 c11 ls6 Nov_lt hs10 hc11) rfl fun ac w hs => ?_)
        exact hs
      · intro L ac w hJ
        have hs := hJ
        refine wpO_plain rfl (op_move hs (some 3) rfl rfl rfl rfl fun ac hs => ?_)
        exact hs
      · intro L ac w hJ
        have hs := hJ
        refine wpO_plain rfl (op_extract hs (some 4) rfl rfl rfl rfl rfl fun ac hs => ?_)
        exact hs
      · intro L ac w hJ
        have hs := hJ
        refine wpO_plain rfl (op_extract hs (some 5) rfl rfl rfl rfl rfl fun ac hs => ?_)
        exact hs
      · intro L ac w hJ
        have hs := hJ
        refine wpO_plain rfl (op_store hs 3 (vs := (Wl s10)) rfl rfl rfl rfl rfl Try.sizeOf24 rfl rfl rfl rfl rfl fun w hs => ?_)
        exact hs
    intro ac w hJ
    replace hs : St 25 w0 [(18, true, W s6), (19, true, W Nov), (20, true, .tuple #[W s10, .int .u64 ((c11 : Nat) : Int)]), (17, true, .tuple #[W s10, .int .u64 ((c11 : Nat) : Int)]), (21, true, W s10), (22, true, .int .u64 ((c11 : Nat) : Int)), (4, true, .pointer (some ⟨g3, 0, none⟩)), (5, true, .pointer (some ⟨g8, 0, none⟩))] [(true, g1, 24, (Wl a)), (true, g2, 24, (Wl b)), (true, g3, 24, [.int .u64 0, .int .u64 0, .int .u64 0, .int .u64 0]), (true, g8, 24, (Wl s10))] ac w := hJ
    refine then_n ?_
    refine wp_seq ?_
    refine wp_region_lit ?_
    refine lstep (wpO_plain rfl (op_load hs none 3 (v := W s10) rfl rfl rfl rfl Try.isAgg24 Try.sizeOf24 rfl rfl fun ac hs => ?_))
    obtain ⟨r12, hr12, lr12⟩ : ∃ z0, s10 % Nord = z0 ∧ z0 < 2 ^ 256 := ⟨_, rfl, modN_lt _⟩
    refine lstep (wpO_plain rfl (op_call (F := 27) hs none (v := W r12) rfl rfl rfl rfl (Try.call27 _) (red_c s10 r12 ls10 hr12) rfl fun ac w hs => ?_))
    refine lstep (wpO_plain rfl (op_store hs 2 (vs := (Wl r12)) rfl rfl rfl rfl rfl Try.sizeOf24 rfl rfl rfl rfl rfl fun w hs => ?_))
    refine wpList_nil ?_
    refine then_n ?_
    refine wp_ret ?_
    exact bodyPost_ret (res1 rfl (rv_c hs 2 (v := W r12) rfl rfl Try.isAgg24 Try.sizeOf24 rfl)) hs.defers ⟨by subst hr4 hr5; rw [← hx, ← hr12]; rw [add_yes hs6 hc7 hs10 hc], (hs.bel rfl)⟩
  · skip
    have hp13 := of_decide_eq_false hc
    refine wp_skip ?_
    refine then_n ?_
    refine wp_seq ?_
    refine wp_region_lit ?_
    refine lstep (wpO_plain rfl (op_load hs none 3 (v := W s6) rfl rfl rfl rfl Try.isAgg24 Try.sizeOf24 rfl rfl fun ac hs => ?_))
    obtain ⟨r14, hr14, lr14⟩ : ∃ z0, s6 % Nord = z0 ∧ z0 < 2 ^ 256 := ⟨_, rfl, modN_lt _⟩
    refine lstep (wpO_plain rfl (op_call (F := 27) hs none (v := W r14) rfl rfl rfl rfl (Try.call27 _) (red_c s6 r14 ls6 hr14) rfl fun ac w hs => ?_))
    refine lstep (wpO_plain rfl (op_store hs 2 (vs := (Wl r14)) rfl rfl rfl rfl rfl Try.sizeOf24 rfl rfl rfl rfl rfl fun w hs => ?_))
    refine wpList_nil ?_
    refine then_n ?_
    refine wp_ret ?_
    exact bodyPost_ret (res1 rfl (rv_c hs 2 (v := W r14) rfl rfl Try.isAgg24 Try.sizeOf24 rfl)) hs.defers ⟨by subst hr4 hr5; rw [← hx, ← hr14]; rw [add_no hs6 hc7 hc], (hs.bel rfl)⟩
theorem sneg_c (a x : Nat) (ha : a < 2 ^ 256) (hx : (Nord - a % Nord) % Nord = x) (w0 : World) : Calls Try.prog 21 #[W a] w0 fun e w' => e = .returned (W x) ∧ Below w0.heap.size w0 w' := by
  refine enter (n := 14) (args := [W a]) Try.func21 rfl rfl (Nat.le_of_ble_eq_true rfl) fun ac hs => ?_
  refine wp_seq ?_
  refine wp_region_lit ?_
  refine lstep (wpO_plain rfl (op_box hs none none (cs := (Wl a)) rfl rfl rfl rfl rfl rfl fun g1 ac w hs => ?_))
  refine lstep (wpO_plain rfl (op_alloc hs none none (cs := [.int .u64 0, .int .u64 0, .int .u64 0, .int .u64 0]) rfl rfl Try.zeroValue24 (by kernel_rfl) rfl rfl fun g2 ac w hs => ?_))
  refine wpList_nil ?_
  refine then_n ?_
  refine wp_seq ?_
  replace hs : St 14 w0 [(1, true, .pointer (some ⟨g1, 0, none⟩)), (2, true, .pointer (some ⟨g2, 0, none⟩))] [(true, g1, 24, (Wl a)), (true, g2, 24, [.int .u64 0, .int .u64 0, .int .u64 0, .int .u64 0])] ac _ := hs.re ⟨rfl, rfl, trivial⟩
  obtain ⟨r3, hr3, lr3⟩ : ∃ z0, a % Nord = z0 ∧ z0 < 2 ^ 256 := ⟨_, rfl, modN_lt _⟩
  obtain ⟨d4, hd4, ld4⟩ : ∃ z0, (Nord + 2 ^ 256 - r3) % 2 ^ 256 = z0 ∧ z0 < 2 ^ 256 := ⟨_, rfl, Nat.mod_lt _ (Nat.two_pow_pos 256)⟩
  obtain ⟨c5, hc5⟩ : ∃ z0, bor Nord r3 = z0 := ⟨_, rfl⟩
  refine region_inv [([], [2, 3, 4, 5, 6, 8, 9]), ([], [2, 3, 4, 5, 6, 8, 9]), ([0, 1], [3, 4, 5, 6, 8, 9]), ([0, 1, 2], [4, 5, 6, 8, 9]), ([0, 1, 2, 3], [5, 6, 8, 9]), ([0, 1, 2, 3, 4], [8, 9]), ([0, 1, 2, 3, 4], [9]), ([], [8, 9]), ([0, 1, 2, 3, 4, 5, 7], [9]), ([0, 1, 2, 3, 4, 5, 6, 7, 8], [])] (fun L ac w => ∃ (g6 : Nat), St 14 w0 [(6, L 0, W Nord), (7, L 1, W a), (8, L 2, W r3), (9, L 3, .tuple #[W d4, .int .u64 ((c5 : Nat) : Int)]), (5, L 4, .tuple #[W d4, .int .u64 ((c5 : Nat) : Int)]), (10, L 5, W d4), (11, L 6, .int .u64 ((c5 : Nat) : Int)), (3, L 7, .pointer (some ⟨g6, 0, none⟩)), (4, L 9, .int .u64 ((c5 : Nat) : Int)), (1, true, .pointer (some ⟨g1, 0, none⟩)), (2, true, .pointer (some ⟨g2, 0, none⟩))] [(true, g1, 24, (Wl a)), (true, g2, 24, [.int .u64 0, .int .u64 0, .int .u64 0, .int .u64 0]), (L 7, g6, 24, (cond (L 8) (Wl d4) [.int .u64 0, .int .u64 0, .int .u64 0, .int .u64 0]))] ac w) (by kernel_rfl) (by kernel_rfl) ?_ ?_ ?_
  · exact ⟨0, hs.drew.skip.skip.skip.skip.skip.skip.skip.skip.skip.pad⟩
  · refine ⟨?_, ?_, ?_, ?_, ?_, ?_, ?_, ?_, ?_, ?_, trivial⟩
    · intro L ac w hJ
      obtain ⟨g6, hs⟩ := hJ
      refine wpO_plain rfl (op_call (F := 40) hs (some 0) (v := W Nord) rfl rfl rfl rfl (Try.call40 _) order_c rfl fun ac w hs => ?_)
      exact ⟨g6, hs⟩
    · intro L ac w hJ
      obtain ⟨g6, hs⟩ := hJ
      refine wpO_plain rfl (op_load hs (some 1) 0 (v := W a) rfl rfl rfl rfl Try.isAgg24 Try.sizeOf24 rfl rfl fun ac hs => ?_)
      exact ⟨g6, hs⟩
    · intro L ac w hJ
      obtain ⟨g6, hs⟩ := hJ
      refine wpO_plain rfl (op_call (F := 27) hs (some 2) (v := W r3) rfl rfl rfl rfl (Try.call27 _) (red_c a r3 ha hr3) rfl fun ac w hs => ?_)
      exact ⟨g6, hs⟩
    · intro L ac w hJ
      obtain ⟨g6, hs⟩ := hJ
      refine wpO_plain rfl (op_call (F := 41) hs (some 3) (v := .tuple #[W d4, .int .u64 ((c5 : Nat) : Int)]) rfl rfl rfl rfl (Try.call41 _) (fun w => sub_at w Nord r3 d4 c5 Nord_lt lr3 hd4 hc5) rfl fun ac w hs => ?_)
      exact ⟨g6, hs⟩
    · intro L ac w hJ
      obtain ⟨g6, hs⟩ := hJ
      refine wpO_plain rfl (op_move hs (some 4) rfl rfl rfl rfl fun ac hs => ?_)
      exact ⟨g6, hs⟩
    · intro L ac w hJ
      obtain ⟨g6, hs⟩ := hJ
      refine wpO_plain rfl (op_extract hs (some 5) rfl rfl rfl rfl rfl fun ac hs => ?_)
      exact ⟨g6, hs⟩
    · intro L ac w hJ
      obtain ⟨g6, hs⟩ := hJ
      refine wpO_plain rfl (op_extract hs (some 6) rfl rfl rfl rfl rfl fun ac hs => ?_)
      exact ⟨g6, hs⟩
    · intro L ac w hJ
      obtain ⟨g6, hs⟩ := hJ
      refine wpO_plain rfl (op_alloc hs (some 7) (some 2) (cs := [.int .u64 0, .int .u64 0, .int .u64 0, .int .u64 0]) rfl rfl Try.zeroValue24 (by kernel_rfl) rfl rfl fun g6 ac w hs => ?_)
      exact ⟨g6, hs⟩
    · intro L ac w hJ
      obtain ⟨g6, hs⟩ := hJ
      refine wpO_plain rfl (op_store hs 2 (vs := (Wl d4)) rfl rfl rfl rfl rfl Try.sizeOf24 rfl rfl rfl rfl rfl fun w hs => ?_)
      exact ⟨g6, hs⟩
    · intro L ac w hJ
      obtain ⟨g6, hs⟩ := hJ
      refine wpO_plain rfl (op_assign hs (some 8) rfl rfl rfl rfl fun ac hs => ?_)
      exact ⟨g6, hs⟩
  intro ac w hJ
  obtain ⟨g6, hs⟩ := hJ
  replace hs : St 14 w0 [(6, true, W Nord), (7, true, W a), (8, true, W r3), (9, true, .tuple #[W d4, .int .u64 ((c5 : Nat) : Int)]), (5, true, .tuple #[W d4, .int .u64 ((c5 : Nat) : Int)]), (10, true, W d4), (11, true, .int .u64 ((c5 : Nat) : Int)), (3, true, .pointer (some ⟨g6, 0, none⟩)), (4, true, .int .u64 ((c5 : Nat) : Int)), (1, true, .pointer (some ⟨g1, 0, none⟩)), (2, true, .pointer (some ⟨g2, 0, none⟩))] [(true, g1, 24, (Wl a)), (true, g2, 24, [.int .u64 0, .int .u64 0, .int .u64 0, .int .u64 0]), (true, g6, 24, (Wl d4))] ac w := hs
  refine then_n ?_
  refine wp_seq ?_
  refine wp_region_lit ?_
  refine lstep (wpO_plain rfl (op_load hs none 2 (v := W d4) rfl rfl rfl rfl Try.isAgg24 Try.sizeOf24 rfl rfl fun ac hs => ?_))
  obtain ⟨r7, hr7, lr7⟩ : ∃ z0, d4 % Nord = z0 ∧ z0 < 2 ^ 256 := ⟨_, rfl, modN_lt _⟩
  refine lstep (wpO_plain rfl (op_call (F := 27) hs none (v := W r7) rfl rfl rfl rfl (Try.call27 _) (red_c d4 r7 ld4 hr7) rfl fun ac w hs => ?_))
  refine lstep (wpO_plain rfl (op_store hs 1 (vs := (Wl r7)) rfl rfl rfl rfl rfl Try.sizeOf24 rfl rfl rfl rfl rfl fun w hs => ?_))
  refine wpList_nil ?_
  refine then_n ?_
  refine wp_ret ?_
  exact bodyPost_ret (res1 rfl (rv_c hs 1 (v := W r7) rfl rfl Try.isAgg24 Try.sizeOf24 rfl)) hs.defers ⟨by subst hr3; rw [← hx, ← hr7, neg_eq hd4], (hs.bel rfl)⟩
theorem smul_c (a b x : Nat) (ha : a < 2 ^ 256) (hb : b < 2 ^ 256) (hx : a * b % Nord = x) (w0 : World) : Calls Try.prog 16 #[W a, W b] w0 fun e w' => e = .returned (W x) ∧ Below w0.heap.size w0 w' := by
  refine enter (n := 42) (args := [W a, W b]) Try.func16 rfl rfl (Nat.le_of_ble_eq_true rfl) fun ac hs => ?_
  refine wp_seq ?_
  refine wp_region_lit ?_
  refine lstep (wpO_plain rfl (op_box hs none none (cs := (Wl a)) rfl rfl rfl rfl rfl rfl fun g1 ac w hs => ?_))
  refine lstep (wpO_plain rfl (op_box hs none none (cs := (Wl b)) rfl rfl rfl rfl rfl rfl fun g2 ac w hs => ?_))
  refine lstep (wpO_plain rfl (op_alloc hs none none (cs := [.int .u64 0, .int .u64 0, .int .u64 0, .int .u64 0]) rfl rfl Try.zeroValue24 (by kernel_rfl) rfl rfl fun g3 ac w hs => ?_))
  refine wpList_nil ?_
  refine then_n ?_
  refine wp_seq ?_
  refine wp_region_lit ?_
  refine lstep (wpO_plain rfl (op_load hs none 0 (v := W a) rfl rfl rfl rfl Try.isAgg24 Try.sizeOf24 rfl rfl fun ac hs => ?_))
  refine lstep (wpO_plain rfl (op_load hs none 1 (v := W b) rfl rfl rfl rfl Try.isAgg24 Try.sizeOf24 rfl rfl fun ac hs => ?_))
  obtain ⟨lo4, hlo4, llo4⟩ : ∃ z0, a * b % 2 ^ 256 = z0 ∧ z0 < 2 ^ 256 := ⟨_, rfl, Nat.mod_lt _ (Nat.two_pow_pos 256)⟩
  obtain ⟨hi5, hhi5, lhi5⟩ : ∃ z0, a * b / 2 ^ 256 = z0 ∧ z0 < 2 ^ 256 := ⟨_, rfl, mul_hi ha hb⟩
  refine lstep (wpO_plain rfl (op_call (F := 31) hs none (v := .tuple #[W lo4, W hi5]) rfl rfl rfl rfl (Try.call31 _) (fun w => wmul_at w a b lo4 hi5 ha hb hlo4 hhi5) rfl fun ac w hs => ?_))
  refine lstep (wpO_plain rfl (op_move hs none rfl rfl rfl rfl fun ac hs => ?_))
  refine lstep (wpO_plain rfl (op_extract hs none rfl rfl rfl rfl rfl fun ac hs => ?_))
  refine lstep (wpO_plain rfl (op_extract hs none rfl rfl rfl rfl rfl fun ac hs => ?_))
  refine lstep (wpO_plain rfl (op_alloc hs none none (cs := [.int .u64 0, .int .u64 0, .int .u64 0, .int .u64 0]) rfl rfl Try.zeroValue24 (by kernel_rfl) rfl rfl fun g6 ac w hs => ?_))
  refine lstep (wpO_plain rfl (op_alloc hs none none (cs := [.int .u64 0, .int .u64 0, .int .u64 0, .int .u64 0]) rfl rfl Try.zeroValue24 (by kernel_rfl) rfl rfl fun g7 ac w hs => ?_))
  refine lstep (wpO_plain rfl (op_store hs 3 (vs := (Wl lo4)) rfl rfl rfl rfl rfl Try.sizeOf24 rfl rfl rfl rfl rfl fun w hs => ?_))
  refine lstep (wpO_plain rfl (op_store hs 4 (vs := (Wl hi5)) rfl rfl rfl rfl rfl Try.sizeOf24 rfl rfl rfl rfl rfl fun w hs => ?_))
  refine wpList_nil ?_
  refine then_n ?_
  refine wp_seq ?_
  refine wp_block ?_
  refine wp_loop_m (fun μ ac w => ∃ (y : Nat) (z : Nat), (y + 2 ^ 256 * z) = μ ∧ (y < 2 ^ 256) ∧ (z < 2 ^ 256) ∧ ((y + 2 ^ 256 * z) % Nord = a * b % Nord) ∧ St 42 w0 [(2, true, .pointer (some ⟨g1, 0, none⟩)), (3, true, .pointer (some ⟨g2, 0, none⟩)), (4, true, .pointer (some ⟨g3, 0, none⟩)), (5, true, .pointer (some ⟨g6, 0, none⟩)), (6, true, .pointer (some ⟨g7, 0, none⟩))] [(true, g1, 24, (Wl a)), (true, g2, 24, (Wl b)), (true, g3, 24, [.int .u64 0, .int .u64 0, .int .u64 0, .int .u64 0]), (true, g6, 24, (Wl y)), (true, g7, 24, (Wl z))] ac w) ?_ ?_
  · exact ⟨_, lo4, hi5, rfl, llo4, lhi5, (by rw [← hlo4, ← hhi5, Nat.mod_add_div]), (hs.re ⟨rfl, rfl, rfl, rfl, rfl, trivial⟩)⟩
  intro μ ac w ⟨y, z, hμ, ly, lz, hq, hs⟩
  refine wp_seq ?_
  refine wp_seq ?_
  refine wp_region_lit ?_
  refine lstep (wpO_plain rfl (op_load hs none 4 (v := W z) rfl rfl rfl rfl Try.isAgg24 Try.sizeOf24 rfl rfl fun ac hs => ?_))
  refine lstep (wpO_plain rfl (op_build hs none (qs := []) (v := .agg #[.int .u64 0, .int .u64 0, .int .u64 0, .int .u64 0]) rfl rfl rfl rfl (fun _ => by kernel_rfl) rfl fun ac hs => ?_))
  refine lstep (wpO_plain rfl (op_bin hs none (v := .bool (decide (z ≠ 0))) rfl rfl rfl rfl (fun w => run_eqGuard_agg w .neq 24 _ _ _ _ Try.eqGuardType24) (neqW z 0 lz (by decide) _ rfl) rfl fun ac hs => ?_))
  refine wpList_nil ?_
  refine then_n ?_
  refine wp_cond_split (hs.ev rfl) (fun hc => ?_) (fun hc => ?_)
  · skip
    have hp8 := of_decide_eq_true hc
    refine wp_skip ?_
    refine then_n ?_
    refine wp_block ?_
    refine wp_seq ?_
    replace hs : St 42 w0 [(2, true, .pointer (some ⟨g1, 0, none⟩)), (3, true, .pointer (some ⟨g2, 0, none⟩)), (4, true, .pointer (some ⟨g3, 0, none⟩)), (5, true, .pointer (some ⟨g6, 0, none⟩)), (6, true, .pointer (some ⟨g7, 0, none⟩))] [(true, g1, 24, (Wl a)), (true, g2, 24, (Wl b)), (true, g3, 24, [.int .u64 0, .int .u64 0, .int .u64 0, .int .u64 0]), (true, g6, 24, (Wl y)), (true, g7, 24, (Wl z))] ac _ := hs.re ⟨rfl, rfl, rfl, rfl, rfl, trivial⟩
    obtain ⟨lo9, hlo9, llo9⟩ : ∃ z0, z * Nov % 2 ^ 256 = z0 ∧ z0 < 2 ^ 256 := ⟨_, rfl, Nat.mod_lt _ (Nat.two_pow_pos 256)⟩
    obtain ⟨hi10, hhi10, lhi10⟩ : ∃ z0, z * Nov / 2 ^ 256 = z0 ∧ z0 < 2 ^ 256 := ⟨_, rfl, mul_hi lz Nov_lt⟩
    refine region_inv [([], [2, 3, 4, 5, 8, 9]), ([], [2, 3, 4, 5, 8, 9]), ([0, 1], [3, 4, 5, 8, 9]), ([0, 1, 2], [4, 5, 8, 9]), ([0, 1, 2, 3], [8, 9]), ([0, 1, 2, 3], [9]), ([], [8, 9]), ([], [8, 9]), ([0, 1, 2, 3, 4, 6, 7], [9]), ([0, 1, 2, 3, 4, 5, 6, 7, 8], [])] (fun L ac w => ∃ (g11 : Nat) (g12 : Nat), St 42 w0 [(21, L 0, W z), (22, L 1, W Nov), (23, L 2, .tuple #[W lo9, W hi10]), (20, L 3, .tuple #[W lo9, W hi10]), (24, L 4, W lo9), (25, L 5, W hi10), (7, L 6, .pointer (some ⟨g11, 0, none⟩)), (8, L 7, .pointer (some ⟨g12, 0, none⟩)), (2, true, .pointer (some ⟨g1, 0, none⟩)), (3, true, .pointer (some ⟨g2, 0, none⟩)), (4, true, .pointer (some ⟨g3, 0, none⟩)), (5, true, .pointer (some ⟨g6, 0, none⟩)), (6, true, .pointer (some ⟨g7, 0, none⟩))] [(true, g1, 24, (Wl a)), (true, g2, 24, (Wl b)), (true, g3, 24, [.int .u64 0, .int .u64 0, .int .u64 0, .int .u64 0]), (true, g6, 24, (Wl y)), (true, g7, 24, (Wl z)), (L 6, g11, 24, (cond (L 8) (Wl lo9) [.int .u64 0, .int .u64 0, .int .u64 0, .int .u64 0])), (L 7, g12, 24, (cond (L 9) (Wl hi10) [.int .u64 0, .int .u64 0, .int .u64 0, .int .u64 0]))] ac w) (by kernel_rfl) (by kernel_rfl) ?_ ?_ ?_
    · exact ⟨0, 0, hs.drew.skip.skip.skip.skip.skip.skip.skip.skip.pad.pad⟩
    · refine ⟨?_, ?_, ?_, ?_, ?_, ?_, ?_, ?_, ?_, ?_, trivial⟩
      · intro L ac w hJ
        obtain ⟨g11, g12, hs⟩ := hJ
        refine wpO_plain rfl (op_load hs (some 0) 4 (v := W z) rfl rfl rfl rfl Try.isAgg24 Try.sizeOf24 rfl rfl fun ac hs => ?_)
        exact ⟨g11, g12, hs⟩
      · intro L ac w hJ
        obtain ⟨g11, g12, hs⟩ := hJ
        refine wpO_plain rfl (op_call (F := 30) hs (some 1) (v := W Nov) rfl rfl rfl rfl (Try.call30 _) over_c rfl fun ac w hs => ?_)
        exact ⟨g11, g12, hs⟩
      · intro L ac w hJ
        obtain ⟨g11, g12, hs⟩ := hJ
        refine wpO_plain rfl (op_call (F := 31) hs (some 2) (v := .tuple #[W lo9, W hi10]) rfl rfl rfl rfl (Try.call31 _) (fun w => wmul_at w z Nov lo9 hi10 lz Nov_lt hlo9 hhi10) rfl fun ac w hs => ?_)
        exact ⟨g11, g12, hs⟩
      · intro L ac w hJ
        obtain ⟨g11, g12, hs⟩ := hJ
        refine wpO_plain rfl (op_move hs (some 3) rfl rfl rfl rfl fun ac hs => ?_)
        exact ⟨g11, g12, hs⟩
      · intro L ac w hJ
        obtain ⟨g11, g12, hs⟩ := hJ
        refine wpO_plain rfl (op_extract hs (some 4) rfl rfl rfl rfl rfl fun ac hs => ?_)
        exact ⟨g11, g12, hs⟩
      · intro L ac w hJ
        obtain ⟨g11, g12, hs⟩ := hJ
        refine wpO_plain rfl (op_extract hs (some 5) rfl rfl rfl rfl rfl fun ac hs => ?_)
        exact ⟨g11, g12, hs⟩
      · intro L ac w hJ
        obtain ⟨g11, g12, hs⟩ := hJ
        refine wpO_plain rfl (op_alloc hs (some 6) (some 5) (cs := [.int .u64 0, .int .u64 0, .int .u64 0, .int .u64 0]) rfl rfl Try.zeroValue24 (by kernel_rfl) rfl rfl fun g11 ac w hs => ?_)
        exact ⟨g11, g12, hs⟩
      · intro L ac w hJ
        obtain ⟨g11, g12, hs⟩ := hJ
        refine wpO_plain rfl (op_alloc hs (some 7) (some 6) (cs := [.int .u64 0, .int .u64 0, .int .u64 0, .int .u64 0]) rfl rfl Try.zeroValue24 (by kernel_rfl) rfl rfl fun g12 ac w hs => ?_)
        exact ⟨g11, g12, hs⟩
      · intro L ac w hJ
        obtain ⟨g11, g12, hs⟩ := hJ
        refine wpO_plain rfl (op_store hs 5 (vs := (Wl lo9)) rfl rfl rfl rfl rfl Try.sizeOf24 rfl rfl rfl rfl rfl fun w hs => ?_)
        exact ⟨g11, g12, hs⟩
      · intro L ac w hJ
        obtain ⟨g11, g12, hs⟩ := hJ
        refine wpO_plain rfl (op_store hs 6 (vs := (Wl hi10)) rfl rfl rfl rfl rfl Try.sizeOf24 rfl rfl rfl rfl rfl fun w hs => ?_)
        exact ⟨g11, g12, hs⟩
    intro ac w hJ
    obtain ⟨g11, g12, hs⟩ := hJ
    replace hs : St 42 w0 [(21, true, W z), (22, true, W Nov), (23, true, .tuple #[W lo9, W hi10]), (20, true, .tuple #[W lo9, W hi10]), (24, true, W lo9), (25, true, W hi10), (7, true, .pointer (some ⟨g11, 0, none⟩)), (8, true, .pointer (some ⟨g12, 0, none⟩)), (2, true, .pointer (some ⟨g1, 0, none⟩)), (3, true, .pointer (some ⟨g2, 0, none⟩)), (4, true, .pointer (some ⟨g3, 0, none⟩)), (5, true, .pointer (some ⟨g6, 0, none⟩)), (6, true, .pointer (some ⟨g7, 0, none⟩))] [(true, g1, 24, (Wl a)), (true, g2, 24, (Wl b)), (true, g3, 24, [.int .u64 0, .int .u64 0, .int .u64 0, .int .u64 0]), (true, g6, 24, (Wl y)), (true, g7, 24, (Wl z)), (true, g11, 24, (Wl lo9)), (true, g12, 24, (Wl hi10))] ac w := hs
    refine then_n ?_
    refine wp_seq ?_
    refine wp_region_lit ?_
    refine lstep (wpO_plain rfl (op_load hs none 3 (v := W y) rfl rfl rfl rfl Try.isAgg24 Try.sizeOf24 rfl rfl fun ac hs => ?_))
    refine lstep (wpO_plain rfl (op_load hs none 5 (v := W lo9) rfl rfl rfl rfl Try.isAgg24 Try.sizeOf24 rfl rfl fun ac hs => ?_))
    obtain ⟨s13, hs13, ls13⟩ : ∃ z0, (y + lo9) % 2 ^ 256 = z0 ∧ z0 < 2 ^ 256 := ⟨_, rfl, Nat.mod_lt _ (Nat.two_pow_pos 256)⟩
    obtain ⟨c14, hc14⟩ : ∃ z0, (y + lo9) / 2 ^ 256 = z0 := ⟨_, rfl⟩
    refine lstep (wpO_plain rfl (op_call (F := 29) hs none (v := .tuple #[W s13, .int .u64 ((c14 : Nat) : Int)]) rfl rfl rfl rfl (Try.call29 _) (fun w => add_at w y lo9 s13 c14 ly llo9 hs13 hc14) rfl fun ac w hs => ?_))
    refine lstep (wpO_plain rfl (op_move hs none rfl rfl rfl rfl fun ac hs => ?_))
    refine lstep (wpO_plain rfl (op_extract hs none rfl rfl rfl rfl rfl fun ac hs => ?_))
    refine lstep (wpO_plain rfl (op_extract hs none rfl rfl rfl rfl rfl fun ac hs => ?_))
    refine lstep (wpO_plain rfl (op_alloc hs none none (cs := [.int .u64 0, .int .u64 0, .int .u64 0, .int .u64 0]) rfl rfl Try.zeroValue24 (by kernel_rfl) rfl rfl fun g15 ac w hs => ?_))
    refine lstep (wpO_plain rfl (op_store hs 7 (vs := (Wl s13)) rfl rfl rfl rfl rfl Try.sizeOf24 rfl rfl rfl rfl rfl fun w hs => ?_))
    refine lstep (wpO_plain rfl (op_assign hs none rfl rfl rfl rfl fun ac hs => ?_))
    refine wpList_nil ?_
    refine then_n ?_
    refine wp_seq ?_
    replace hs : St 42 w0 [(2, true, .pointer (some ⟨g1, 0, none⟩)), (3, true, .pointer (some ⟨g2, 0, none⟩)), (4, true, .pointer (some ⟨g3, 0, none⟩)), (5, true, .pointer (some ⟨g6, 0, none⟩)), (6, true, .pointer (some ⟨g7, 0, none⟩)), (8, true, .pointer (some ⟨g12, 0, none⟩)), (9, true, .pointer (some ⟨g15, 0, none⟩)), (10, true, .int .u64 ((c14 : Nat) : Int))] [(true, g1, 24, (Wl a)), (true, g2, 24, (Wl b)), (true, g3, 24, [.int .u64 0, .int .u64 0, .int .u64 0, .int .u64 0]), (true, g6, 24, (Wl y)), (true, g7, 24, (Wl z)), (true, g11, 24, (Wl lo9)), (true, g12, 24, (Wl hi10)), (true, g15, 24, (Wl s13))] ac _ := hs.re ⟨rfl, rfl, rfl, rfl, rfl, rfl, rfl, rfl, trivial⟩
    refine wp_region_lit ?_
    refine lstep (wpO_plain rfl (op_load hs none 7 (v := W s13) rfl rfl rfl rfl Try.isAgg24 Try.sizeOf24 rfl rfl fun ac hs => ?_))
    refine lstep (wpO_plain rfl (op_store hs 3 (vs := (Wl s13)) rfl rfl rfl rfl rfl Try.sizeOf24 rfl rfl rfl rfl rfl fun w hs => ?_))
    refine wpList_nil ?_
    refine then_n ?_
    replace hs : St 42 w0 [(2, true, .pointer (some ⟨g1, 0, none⟩)), (3, true, .pointer (some ⟨g2, 0, none⟩)), (4, true, .pointer (some ⟨g3, 0, none⟩)), (5, true, .pointer (some ⟨g6, 0, none⟩)), (6, true, .pointer (some ⟨g7, 0, none⟩)), (8, true, .pointer (some ⟨g12, 0, none⟩)), (10, true, .int .u64 ((c14 : Nat) : Int))] [(true, g1, 24, (Wl a)), (true, g2, 24, (Wl b)), (true, g3, 24, [.int .u64 0, .int .u64 0, .int .u64 0, .int .u64 0]), (true, g6, 24, (Wl s13)), (true, g7, 24, (Wl z)), (true, g11, 24, (Wl lo9)), (true, g12, 24, (Wl hi10)), (true, g15, 24, (Wl s13))] ac _ := hs.re ⟨rfl, rfl, rfl, rfl, rfl, rfl, rfl, trivial⟩
    obtain ⟨s16, hs16, ls16⟩ : ∃ z0, (hi10 + c14) % 2 ^ 256 = z0 ∧ z0 < 2 ^ 256 := ⟨_, rfl, Nat.mod_lt _ (Nat.two_pow_pos 256)⟩
    obtain ⟨c17, hc17⟩ : ∃ z0, (hi10 + c14) / 2 ^ 256 = z0 := ⟨_, rfl⟩
    refine region_inv [([], [3, 4, 5, 6, 7]), ([], [2, 3, 4, 5, 6, 7]), ([1], [3, 4, 5, 6, 7]), ([0, 1, 2], [4, 5, 6, 7]), ([0, 1, 2, 3], [5, 6, 7]), ([0, 1, 2, 3, 4], [7]), ([0, 1, 2, 3, 4], []), ([0, 1, 2, 3, 4, 5], [])] (fun L ac w => St 42 w0 [(34, L 0, W hi10), (35, L 1, .int .u64 ((c14 : Nat) : Int)), (36, L 2, W c14), (37, L 3, .tuple #[W s16, .int .u64 ((c17 : Nat) : Int)]), (33, L 4, .tuple #[W s16, .int .u64 ((c17 : Nat) : Int)]), (38, L 5, W s16), (39, L 6, .int .u64 ((c17 : Nat) : Int)), (2, true, .pointer (some ⟨g1, 0, none⟩)), (3, true, .pointer (some ⟨g2, 0, none⟩)), (4, true, .pointer (some ⟨g3, 0, none⟩)), (5, true, .pointer (some ⟨g6, 0, none⟩)), (6, true, .pointer (some ⟨g7, 0, none⟩)), (8, true, .pointer (some ⟨g12, 0, none⟩)), (10, true, .int .u64 ((c14 : Nat) : Int))] [(true, g1, 24, (Wl a)), (true, g2, 24, (Wl b)), (true, g3, 24, [.int .u64 0, .int .u64 0, .int .u64 0, .int .u64 0]), (true, g6, 24, (Wl s13)), (true, g7, 24, (cond (L 7) (Wl s16) (Wl z))), (true, g11, 24, (Wl lo9)), (true, g12, 24, (Wl hi10)), (true, g15, 24, (Wl s13))] ac w) (by kernel_rfl) (by kernel_rfl) ?_ ?_ ?_
    · exact hs.drew.skip.skip.skip.skip.skip.skip.skip
    · refine ⟨?_, ?_, ?_, ?_, ?_, ?_, ?_, ?_, trivial⟩
      · intro L ac w hJ
        have hs := hJ
        refine wpO_plain rfl (op_load hs (some 0) 6 (v := W hi10) rfl rfl rfl rfl Try.isAgg24 Try.sizeOf24 rfl rfl fun ac hs => ?_)
        exact hs
      · intro L ac w hJ
        have hs := hJ
        refine wpO_plain rfl (op_move hs (some 1) rfl rfl rfl rfl fun ac hs => ?_)
        exact hs
      · intro L ac w hJ
        have hs := hJ
        refine wpO_plain rfl (op_call (F := 25) hs (some 2) (v := W c14) rfl rfl rfl rfl (Try.call25 _) (fun w => from_any w c14 (c_lt64 hc14 ly llo9)) rfl fun ac w hs => ?_)
        exact hs
      · intro L ac w hJ
        have hs := hJ
        refine wpO_plain rfl (op_call (F := 29) hs (some 3) (v := .tuple #[W s16, .int .u64 ((c17 : Nat) : Int)]) rfl rfl rfl rfl (Try.call29 _) (fun w => add_at w hi10 c14 s16 c17 lhi10 (c_lt256 hc14 ly llo9) hs16 hc17) rfl fun ac w hs => ?_)
        exact hs
      · intro L ac w hJ
        have hs := hJ
        refine wpO_plain rfl (op_move hs (some 4) rfl rfl rfl rfl fun ac hs => ?_)
        exact hs
      · intro L ac w hJ
        have hs := hJ
        refine wpO_plain rfl (op_extract hs (some 5) rfl rfl rfl rfl rfl fun ac hs => ?_)
        exact hs
      · intro L ac w hJ
        have hs := hJ
        refine wpO_plain rfl (op_extract hs (some 6) rfl rfl rfl rfl rfl fun ac hs => ?_)
        exact hs
      · intro L ac w hJ
        have hs := hJ
        refine wpO_plain rfl (op_store hs 4 (vs := (Wl s16)) rfl rfl rfl rfl rfl Try.sizeOf24 rfl rfl rfl rfl rfl fun w hs => ?_)
        exact hs
    intro ac w hJ
    replace hs : St 42 w0 [(34, true, W hi10), (35, true, .int .u64 ((c14 : Nat) : Int)), (36, true, W c14), (37, true, .tuple #[W s16, .int .u64 ((c17 : Nat) : Int)]), (33, true, .tuple #[W s16, .int .u64 ((c17 : Nat) : Int)]), (38, true, W s16), (39, true, .int .u64 ((c17 : Nat) : Int)), (2, true, .pointer (some ⟨g1, 0, none⟩)), (3, true, .pointer (some ⟨g2, 0, none⟩)), (4, true, .pointer (some ⟨g3, 0, none⟩)), (5, true, .pointer (some ⟨g6, 0, none⟩)), (6, true, .pointer (some ⟨g7, 0, none⟩)), (8, true, .pointer (some ⟨g12, 0, none⟩)), (10, true, .int .u64 ((c14 : Nat) : Int))] [(true, g1, 24, (Wl a)), (true, g2, 24, (Wl b)), (true, g3, 24, [.int .u64 0, .int .u64 0, .int .u64 0, .int .u64 0]), (true, g6, 24, (Wl s13)), (true, g7, 24, (Wl s16)), (true, g11, 24, (Wl lo9)), (true, g12, 24, (Wl hi10)), (true, g15, 24, (Wl s13))] ac w := hJ
    refine blk_n ?_
    refine then_n ?_
    have hF := fold_eq lz hlo9 hhi10 hs13 hc14 hs16 ly
    exact ⟨_, ⟨s13, s16, rfl, ls13, ls16, ((fold_mod hF).trans hq), ((hs.takeb 5).re ⟨rfl, rfl, rfl, rfl, rfl, trivial⟩)⟩, (by have := fold_less hF (of_decide_eq_true hc); omega)⟩
  · skip
    have hp18 := of_decide_eq_false hc
    refine wp_exit ?_
    refine then_e ?_
    refine then_e ?_
    refine blk_e ?_
    refine then_n ?_
    refine wp_seq ?_
    refine wp_region_lit ?_
    refine lstep (wpO_plain rfl (op_load hs none 3 (v := W y) rfl rfl rfl rfl Try.isAgg24 Try.sizeOf24 rfl rfl fun ac hs => ?_))
    obtain ⟨r19, hr19, lr19⟩ : ∃ z0, y % Nord = z0 ∧ z0 < 2 ^ 256 := ⟨_, rfl, modN_lt _⟩
    refine lstep (wpO_plain rfl (op_call (F := 27) hs none (v := W r19) rfl rfl rfl rfl (Try.call27 _) (red_c y r19 ly hr19) rfl fun ac w hs => ?_))
    refine lstep (wpO_plain rfl (op_store hs 2 (vs := (Wl r19)) rfl rfl rfl rfl rfl Try.sizeOf24 rfl rfl rfl rfl rfl fun w hs => ?_))
    refine wpList_nil ?_
    refine then_n ?_
    refine wp_ret ?_
    exact bodyPost_ret (res1 rfl (rv_c hs 2 (v := W r19) rfl rfl Try.isAgg24 Try.sizeOf24 rfl)) hs.defers ⟨by have hz := of_decide_eq_false hc; have hz : z = 0 := Classical.not_not.1 hz; subst hz; rw [← hx, ← hr19, ← hq]; rfl, (hs.bel rfl)⟩
end Go.Proofs.Ytejbajgpiecjcaa

/- The contracts of half, Inverse, of what bytes tell. -/
namespace Go.Proofs.Ytejbajgpiecjcaa
open Go.RowKit
set_option maxRecDepth 10000

theorem wread_c (b : Nat → Nat) (a : Nat) (hb : ∀ j, j < 32 → b j < 256) (hx : pr b 0 32 = a) (w0 : World) : Calls Try.prog 34 #[At .u8 32 b] w0 fun e w' => e = .returned (W a) ∧ Below w0.heap.size w0 w' := by
  refine enter (n := 28) (args := [At .u8 32 b]) Try.func34 rfl rfl (Nat.le_of_ble_eq_true rfl) fun ac hs => ?_
  refine wp_seq ?_
  refine wp_region_lit ?_
  refine lstep (wpO_plain rfl (op_box hs none none (cs := (tab .u8 32 b)) rfl rfl rfl rfl rfl rfl fun g1 ac w hs => ?_))
  refine lstep (wpO_plain rfl (op_alloc hs none none (cs := [.int .u64 0, .int .u64 0, .int .u64 0, .int .u64 0]) rfl rfl Try.zeroValue24 (by kernel_rfl) rfl rfl fun g2 ac w hs => ?_))
  refine wpList_nil ?_
  refine then_n ?_
  refine wp_seq ?_
  refine wp_region_lit ?_
  refine lstep (wpO_plain rfl (op_alloc hs none none (cs := [.int .u64 0, .int .u64 0, .int .u64 0, .int .u64 0]) rfl rfl Try.zeroValue24 (by kernel_rfl) rfl rfl fun g3 ac w hs => ?_))
  refine wpList_nil ?_
  refine then_n ?_
  refine wp_seq ?_
  refine wp_seq ?_
  refine wp_region_lit ?_
  refine lstep (wpO_plain rfl (op_load hs none 0 (v := At .u8 32 b) rfl rfl rfl rfl Try.isAgg30 Try.sizeOf30 ldv_tab rfl fun ac hs => ?_))
  refine lstep (wpO_plain rfl (op_move hs none rfl rfl rfl rfl fun ac hs => ?_))
  refine wpList_nil ?_
  refine then_n ?_
  refine wp_block ?_
  refine wp_loop_m (fun μ ac w => ∃ (i : Nat) (f : Nat → Nat), (32 - i) = μ ∧ (i ≤ 32) ∧ (∀ j, j < 4 → f j = limN (pr b 0 i * 256 ^ (32 - i)) j) ∧ St 28 w0 [(1, true, .pointer (some ⟨g1, 0, none⟩)), (2, true, .pointer (some ⟨g2, 0, none⟩)), (3, true, .pointer (some ⟨g3, 0, none⟩)), (7, true, At .u8 32 b), (8, true, .int .i64 ((i : Nat) : Int))] [(true, g1, 30, (tab .u8 32 b)), (true, g2, 24, [.int .u64 0, .int .u64 0, .int .u64 0, .int .u64 0]), (true, g3, 24, (tab .u64 4 f))] ac w) ?_ ?_
  · exact ⟨_, 0, (fun _ => 0), rfl, (by omega), read_start, (hs.re ⟨rfl, rfl, rfl, rfl, rfl, trivial⟩)⟩
  intro μ ac w ⟨i, f, hμ, hi, hf, hs⟩
  refine wp_seq ?_
  refine wp_region_lit ?_
  refine lstep (wpO_plain rfl (op_bin hs none (v := .bool (decide (i < 32))) rfl rfl rfl rfl (fun _ => rfl) (bin_lssN (x := i) (y := 32)) rfl fun ac hs => ?_))
  refine wpList_nil ?_
  refine then_n ?_
  refine wp_seq ?_
  refine wp_cond_split (hs.ev rfl) (fun hc => ?_) (fun hc => ?_)
  · skip
    have hp4 := of_decide_eq_true hc
    have hlt : i < 32 := of_decide_eq_true hc
    have hbi := hb i hlt
    refine wp_skip ?_
    refine then_n ?_
    refine wp_seq ?_
    refine wp_block ?_
    refine wp_seq ?_
    refine wp_region_lit ?_
    refine lstep (wpO_plain rfl (op_move hs none rfl rfl rfl rfl fun ac hs => ?_))
    have l5 := hb i (by omega)
    refine lstep (wpO_plain rfl (op_index hs none (v := .int .u8 ((b i : Nat) : Int)) rfl rfl rfl rfl (idx_at (j := i) Try.underlying30 Try.isAgg5 Try.sizeOf5 (show i < 32 by omega)) rfl fun ac hs => ?_))
    refine lstep (wpO_plain rfl (op_assign hs none rfl rfl rfl rfl fun ac hs => ?_))
    refine lstep (wpO_plain rfl (op_assign hs none rfl rfl rfl rfl fun ac hs => ?_))
    refine wpList_nil ?_
    refine then_n ?_
    refine wp_seq ?_
    refine wp_region_lit ?_
    refine lstep (wpO_plain rfl (op_move hs none rfl rfl rfl rfl fun ac hs => ?_))
    refine lstep (wpO_plain rfl (op_bin hs none (v := .int .i64 ((31 - i : Nat) : Int)) rfl rfl rfl rfl (fun _ => rfl) (bin_subN (x := 31) (y := i) (z := 31 - i) (by omega) (show 31 - i < 9223372036854775808 by omega)) rfl fun ac hs => ?_))
    refine lstep (wpO_plain rfl (op_assign hs none rfl rfl rfl rfl fun ac hs => ?_))
    refine wpList_nil ?_
    refine then_n ?_
    replace hs : St 28 w0 [(1, true, .pointer (some ⟨g1, 0, none⟩)), (2, true, .pointer (some ⟨g2, 0, none⟩)), (3, true, .pointer (some ⟨g3, 0, none⟩)), (7, true, At .u8 32 b), (8, true, .int .i64 ((i : Nat) : Int)), (5, true, .int .u8 ((b i : Nat) : Int)), (6, true, .int .i64 ((31 - i : Nat) : Int))] [(true, g1, 30, (tab .u8 32 b)), (true, g2, 24, [.int .u64 0, .int .u64 0, .int .u64 0, .int .u64 0]), (true, g3, 24, (tab .u64 4 f))] ac _ := hs.re ⟨rfl, rfl, rfl, rfl, rfl, rfl, rfl, trivial⟩
    have l6 := read_lt hf ((31 - i) / 8) (by omega)
    refine region_inv [([], [1, 2, 3, 10, 11, 12]), ([0], [2, 3, 10, 11, 12]), ([0, 1], [3, 10, 11, 12]), ([0, 1, 2], [10, 11, 12]), ([], [5, 9, 10, 11, 12]), ([4], [9, 10, 11, 12]), ([], [7, 8, 9, 10, 11, 12]), ([6], [8, 9, 10, 11, 12]), ([6, 7], [9, 10, 11, 12]), ([4, 5, 6, 7, 8], [10, 11, 12]), ([0, 1, 2, 3, 4, 5, 6, 7, 8, 9], [11, 12]), ([0, 1, 2, 3, 4, 5, 6, 7, 8, 9, 10], [12]), ([0, 1, 2, 3, 4, 5, 6, 7, 8, 9, 10, 11], [])] (fun L ac w => St 28 w0 [(14, L 0, .int .i64 ((31 - i : Nat) : Int)), (15, L 1, .int .i64 (((31 - i) / 8 : Nat) : Int)), (16, L 2, .pointer (some ⟨g3, (31 - i) / 8, none⟩)), (17, L 3, .int .u64 ((f ((31 - i) / 8) : Nat) : Int)), (18, L 4, .int .u8 ((b i : Nat) : Int)), (19, L 5, .int .u64 ((b i : Nat) : Int)), (20, L 6, .int .i64 ((31 - i : Nat) : Int)), (21, L 7, .int .i64 (((31 - i) % 8 : Nat) : Int)), (22, L 8, .int .i64 ((8 * ((31 - i) % 8) : Nat) : Int)), (23, L 9, .int .u64 (((b i) * 2 ^ (8 * ((31 - i) % 8)) % 18446744073709551616 : Nat) : Int)), (24, L 10, .int .u64 (((f ((31 - i) / 8)) ||| ((b i) * 2 ^ (8 * ((31 - i) % 8)) % 18446744073709551616) : Nat) : Int)), (25, L 11, .pointer (some ⟨g3, (31 - i) / 8, none⟩)), (1, true, .pointer (some ⟨g1, 0, none⟩)), (2, true, .pointer (some ⟨g2, 0, none⟩)), (3, true, .pointer (some ⟨g3, 0, none⟩)), (7, true, At .u8 32 b), (8, true, .int .i64 ((i : Nat) : Int)), (5, true, .int .u8 ((b i : Nat) : Int)), (6, true, .int .i64 ((31 - i : Nat) : Int))] [(true, g1, 30, (tab .u8 32 b)), (true, g2, 24, [.int .u64 0, .int .u64 0, .int .u64 0, .int .u64 0]), (true, g3, 24, (cond (L 12) (tab .u64 4 (upn f ((31 - i) / 8) ((f ((31 - i) / 8)) ||| ((b i) * 2 ^ (8 * ((31 - i) % 8)) % 18446744073709551616)))) (tab .u64 4 f)))] ac w) (by kernel_rfl) (by kernel_rfl) ?_ ?_ ?_
    · exact hs.drew.skip.skip.skip.skip.skip.skip.skip.skip.skip.skip.skip.skip
    · refine ⟨?_, ?_, ?_, ?_, ?_, ?_, ?_, ?_, ?_, ?_, ?_, ?_, ?_, trivial⟩
      · intro L ac w hJ
        have hs := hJ
        refine wpO_plain rfl (op_move hs (some 0) rfl rfl rfl rfl fun ac hs => ?_)
        exact hs
      · intro L ac w hJ
        have hs := hJ
        refine wpO_plain rfl (op_bin hs (some 1) (v := .int .i64 (((31 - i) / 8 : Nat) : Int)) rfl rfl rfl rfl (fun _ => rfl) (bin_quoN (x := 31 - i) (y := 8) (z := (31 - i) / 8) rfl (by decide) (show 31 - i < 9223372036854775808 by omega)) rfl fun ac hs => ?_)
        exact hs
      · intro L ac w hJ
        have hs := hJ
        refine wpO_plain rfl (op_idxA hs (some 2) (j := (31 - i) / 8) rfl rfl rfl rfl Try.underlying24 Try.sizeOf22 (show (31 - i) / 8 < 4 by omega) (off := (31 - i) / 8) (by omega) rfl fun ac hs => ?_)
        exact hs
      · intro L ac w hJ
        have hs := hJ
        refine wpO_plain rfl (op_load hs (some 3) 2 (v := .int .u64 ((f ((31 - i) / 8) : Nat) : Int)) rfl rfl rfl rfl Try.isAgg22 Try.sizeOf22 (tab_get (j := (31 - i) / 8) (show (31 - i) / 8 < 4 by omega)) rfl fun ac hs => ?_)
        exact hs
      · intro L ac w hJ
        have hs := hJ
        refine wpO_plain rfl (op_move hs (some 4) rfl rfl rfl rfl fun ac hs => ?_)
        exact hs
      · intro L ac w hJ
        have hs := hJ
        refine wpO_plain rfl (op_convert hs (some 5) (v := .int .u64 ((b i : Nat) : Int)) rfl rfl rfl (conv_N Try.underlying5 Try.underlying22 (show b i < 18446744073709551616 by omega)) rfl fun ac hs => ?_)
        exact hs
      · intro L ac w hJ
        have hs := hJ
        refine wpO_plain rfl (op_move hs (some 6) rfl rfl rfl rfl fun ac hs => ?_)
        exact hs
      · intro L ac w hJ
        have hs := hJ
        refine wpO_plain rfl (op_bin hs (some 7) (v := .int .i64 (((31 - i) % 8 : Nat) : Int)) rfl rfl rfl rfl (fun _ => rfl) (bin_remN (x := 31 - i) (y := 8) (z := (31 - i) % 8) rfl (by decide)) rfl fun ac hs => ?_)
        exact hs
      · intro L ac w hJ
        have hs := hJ
        refine wpO_plain rfl (op_bin hs (some 8) (v := .int .i64 ((8 * ((31 - i) % 8) : Nat) : Int)) rfl rfl rfl rfl (fun _ => rfl) (bin_mulN (x := 8) (y := (31 - i) % 8) (z := 8 * ((31 - i) % 8)) rfl (show 8 * ((31 - i) % 8) < 9223372036854775808 by omega)) rfl fun ac hs => ?_)
        exact hs
      · intro L ac w hJ
        have hs := hJ
        refine wpO_plain rfl (op_bin hs (some 9) (v := .int .u64 (((b i) * 2 ^ (8 * ((31 - i) % 8)) % 18446744073709551616 : Nat) : Int)) rfl rfl rfl rfl (fun _ => rfl) (bin_shlM (x := b i) (y := 8 * ((31 - i) % 8)) (z := (b i) * 2 ^ (8 * ((31 - i) % 8)) % 18446744073709551616) rfl rfl) rfl fun ac hs => ?_)
        exact hs
      · intro L ac w hJ
        have hs := hJ
        refine wpO_plain rfl (op_bin hs (some 10) (v := .int .u64 (((f ((31 - i) / 8)) ||| ((b i) * 2 ^ (8 * ((31 - i) % 8)) % 18446744073709551616) : Nat) : Int)) rfl rfl rfl rfl (fun _ => rfl) (bin_orN (x := f ((31 - i) / 8)) (y := (b i) * 2 ^ (8 * ((31 - i) % 8)) % 18446744073709551616) (z := (f ((31 - i) / 8)) ||| ((b i) * 2 ^ (8 * ((31 - i) % 8)) % 18446744073709551616)) rfl (show f ((31 - i) / 8) < 18446744073709551616 by omega) (show (b i) * 2 ^ (8 * ((31 - i) % 8)) % 18446744073709551616 < 18446744073709551616 by omega) (or_lt64 (show f ((31 - i) / 8) < 18446744073709551616 by omega) (show (b i) * 2 ^ (8 * ((31 - i) % 8)) % 18446744073709551616 < 18446744073709551616 by omega))) rfl fun ac hs => ?_)
        exact hs
      · intro L ac w hJ
        have hs := hJ
        refine wpO_plain rfl (op_idxA hs (some 11) (j := (31 - i) / 8) rfl rfl rfl rfl Try.underlying24 Try.sizeOf22 (show (31 - i) / 8 < 4 by omega) (off := (31 - i) / 8) (by omega) rfl fun ac hs => ?_)
        exact hs
      · intro L ac w hJ
        have hs := hJ
        refine wpO_plain rfl (op_store hs 2 (vs := [.int .u64 (((f ((31 - i) / 8)) ||| ((b i) * 2 ^ (8 * ((31 - i) % 8)) % 18446744073709551616) : Nat) : Int)]) rfl rfl rfl rfl rfl Try.sizeOf22 rfl rfl rfl (tab_le (j := (31 - i) / 8) (show (31 - i) / 8 < 4 by omega)) (tab_set) fun w hs => ?_)
        exact hs
    intro ac w hJ
    replace hs : St 28 w0 [(14, true, .int .i64 ((31 - i : Nat) : Int)), (15, true, .int .i64 (((31 - i) / 8 : Nat) : Int)), (16, true, .pointer (some ⟨g3, (31 - i) / 8, none⟩)), (17, true, .int .u64 ((f ((31 - i) / 8) : Nat) : Int)), (18, true, .int .u8 ((b i : Nat) : Int)), (19, true, .int .u64 ((b i : Nat) : Int)), (20, true, .int .i64 ((31 - i : Nat) : Int)), (21, true, .int .i64 (((31 - i) % 8 : Nat) : Int)), (22, true, .int .i64 ((8 * ((31 - i) % 8) : Nat) : Int)), (23, true, .int .u64 (((b i) * 2 ^ (8 * ((31 - i) % 8)) % 18446744073709551616 : Nat) : Int)), (24, true, .int .u64 (((f ((31 - i) / 8)) ||| ((b i) * 2 ^ (8 * ((31 - i) % 8)) % 18446744073709551616) : Nat) : Int)), (25, true, .pointer (some ⟨g3, (31 - i) / 8, none⟩)), (1, true, .pointer (some ⟨g1, 0, none⟩)), (2, true, .pointer (some ⟨g2, 0, none⟩)), (3, true, .pointer (some ⟨g3, 0, none⟩)), (7, true, At .u8 32 b), (8, true, .int .i64 ((i : Nat) : Int)), (5, true, .int .u8 ((b i : Nat) : Int)), (6, true, .int .i64 ((31 - i : Nat) : Int))] [(true, g1, 30, (tab .u8 32 b)), (true, g2, 24, [.int .u64 0, .int .u64 0, .int .u64 0, .int .u64 0]), (true, g3, 24, (tab .u64 4 (upn f ((31 - i) / 8) ((f ((31 - i) / 8)) ||| ((b i) * 2 ^ (8 * ((31 - i) % 8)) % 18446744073709551616)))))] ac w := hJ
    refine blk_n ?_
    refine then_n ?_
    refine wp_region_lit ?_
    refine lstep (wpO_plain rfl (op_bin hs none (v := .int .i64 ((i + 1 : Nat) : Int)) rfl rfl rfl rfl (fun _ => rfl) (bin_addN (x := i) (y := 1) (z := i + 1) rfl (show i + 1 < 9223372036854775808 by omega)) rfl fun ac hs => ?_))
    refine lstep (wpO_plain rfl (op_move hs none rfl rfl rfl rfl fun ac hs => ?_))
    refine wpList_nil ?_
    refine then_n ?_
    exact ⟨_, ⟨(i + 1), (upn f ((31 - i) / 8) ((f ((31 - i) / 8)) ||| ((b i) * 2 ^ (8 * ((31 - i) % 8)) % 18446744073709551616))), rfl, hlt, (read_step hlt hbi hf), (hs.re ⟨rfl, rfl, rfl, rfl, rfl, trivial⟩)⟩, (by omega)⟩
  · skip
    have hp7 := of_decide_eq_false hc
    obtain rfl : i = 32 := by omega
    replace hs := hs.setb 2 (cs' := Wl a) rfl (tab_Wl fun j hj => (hf j hj).trans (by rw [← hx, Nat.sub_self, Nat.pow_zero, Nat.mul_one]))
    refine wp_exit ?_
    refine then_e ?_
    refine then_e ?_
    refine blk_e ?_
    refine then_n ?_
    refine wp_seq ?_
    refine wp_region_lit ?_
    refine lstep (wpO_plain rfl (op_load hs none 2 (v := W a) rfl rfl rfl rfl Try.isAgg24 Try.sizeOf24 rfl rfl fun ac hs => ?_))
    refine lstep (wpO_plain rfl (op_store hs 1 (vs := (Wl a)) rfl rfl rfl rfl rfl Try.sizeOf24 rfl rfl rfl rfl rfl fun w hs => ?_))
    refine wpList_nil ?_
    refine then_n ?_
    refine wp_ret ?_
    exact bodyPost_ret (res1 rfl (rv_c hs 1 (v := W a) rfl rfl Try.isAgg24 Try.sizeOf24 rfl)) hs.defers ⟨rfl, (hs.bel rfl)⟩
end Go.Proofs.Ytejbajgpiecjcaa

/- The contracts of wide.From, bit, twice, and the reference's Bit, twice. -/
namespace Go.Proofs.Ytejbajgpiecjcaa
open Go.RowKit

def bitN (a i : Nat) : Nat := a / 2 ^ i % 2
theorem bit_word (a i : Nat) : a / 2 ^ (64 * (i / 64)) % 2 ^ 64 / 2 ^ (i % 64) % 2 = bitN a i := by
  unfold bitN
  have hr : i % 64 < 64 := Nat.mod_lt _ (by omega)
  have e : (2 : Nat) ^ 64 = 2 ^ (i % 64) * (2 * 2 ^ (63 - i % 64)) := by
    rw [← Nat.pow_succ', ← Nat.pow_add]; congr 1; omega
  rw [e, Nat.mod_mul_right_div_self, Nat.mod_mod_of_dvd _ ⟨_, rfl⟩, Nat.div_div_eq_div_mul, ← Nat.pow_add, Nat.div_add_mod]
theorem and1 (x : Nat) (h : x < 18446744073709551616) : bits .and .u64 (x : Int) 1 = ((x % 2 : Nat) : Int) := by
  have := u64_and_nat x 1 h (by omega)
  rw [show ((1 : Nat) : Int) = 1 from rfl] at this
  rw [this, Nat.and_one_is_mod]

theorem or_even (x c : Nat) (hx : x < 18446744073709551616) (hc : c ≤ 1) : bits .or .u64 (IntKind.u64.wrap ((x : Int) * 2)) (c : Int) = ((x * 2 % 18446744073709551616 + c : Nat) : Int) := by
  have e : IntKind.u64.wrap ((x : Int) * 2) = ((x * 2 % 18446744073709551616 : Nat) : Int) := by simp [IntKind.wrap, IntKind.bits, IntKind.signed]
  rw [e, u64_or_nat _ _ (by omega) (by omega)]
  congr 1
  obtain ⟨y, hy⟩ : ∃ y, x * 2 % 18446744073709551616 = y * 2 := ⟨x % 9223372036854775808, by omega⟩
  rw [hy]
  have := Nat.shiftLeft_add_eq_or_of_lt (i := 1) (b := c) (by omega) y
  rw [Nat.shiftLeft_eq] at this
  rw [Nat.pow_one] at this
  exact this.symm
theorem tw0 (n b : Nat) (hb : b ≤ 1) : lim n 0 * 2 % 18446744073709551616 + b = lim (2 * n + b) 0 := by unfold lim; simp; omega
theorem tw1 (n b : Nat) (hb : b ≤ 1) : lim n 1 * 2 % 18446744073709551616 + lim n 0 / 9223372036854775808 = lim (2 * n + b) 1 := by unfold lim; simp; omega
theorem tw2 (n b : Nat) (hb : b ≤ 1) : lim n 2 * 2 % 18446744073709551616 + lim n 1 / 9223372036854775808 = lim (2 * n + b) 2 := by unfold lim; simp; omega
theorem tw3 (n b : Nat) (hb : b ≤ 1) : lim n 3 * 2 % 18446744073709551616 + lim n 2 / 9223372036854775808 = lim (2 * n + b) 3 := by unfold lim; simp; omega
theorem tw4 (n b : Nat) (hn : n < 2 ^ 256) (hb : b ≤ 1) : lim n 3 / 9223372036854775808 = (((2 * n + b) / 2 ^ 256 : Nat) : Int) := by unfold lim; simp; omega
end Go.Proofs.Ytejbajgpiecjcaa

/- The contracts of twice. -/
namespace Go.Proofs.Ytejbajgpiecjcaa
open Go.RowKit

theorem or_evenI (x c : Int) (h0 : 0 ≤ x) (hx : x ≤ 18446744073709551615) (c0 : 0 ≤ c) (hc : c ≤ 1) : bits .or .u64 (IntKind.u64.wrap (x * 2)) c = x * 2 % 18446744073709551616 + c := by
  obtain ⟨X, rfl⟩ := Int.eq_ofNat_of_zero_le h0
  obtain ⟨C, rfl⟩ := Int.eq_ofNat_of_zero_le c0
  have := or_even X C (by omega) (by omega)
  rw [this]
  simp
theorem shr63 (x : Int) (h0 : 0 ≤ x) (hx : x ≤ 18446744073709551615) : 0 ≤ x / 9223372036854775808 ∧ x / 9223372036854775808 ≤ 1 := by omega

theorem tdiv63 (x : Int) (h0 : 0 ≤ x) (hx : x ≤ 18446744073709551615) : IntKind.u64.wrap (x.tdiv 9223372036854775808) = x / 9223372036854775808 := by
  rw [Int.tdiv_eq_ediv_of_nonneg h0]
  simp [IntKind.wrap, IntKind.bits, IntKind.signed]; omega
theorem wadd (x c : Int) (h0 : 0 ≤ x) (hx : x ≤ 18446744073709551615) (c0 : 0 ≤ c) (hc : c ≤ 1) : IntKind.u64.wrap (IntKind.u64.wrap (x * 2) + c) = x * 2 % 18446744073709551616 + c := by
  simp [IntKind.wrap, IntKind.bits, IntKind.signed]; omega

theorem tw_words (n b : Nat) (hb : b ≤ 1) :
    (Value.agg #[.int .u64 (bits .or .u64 (IntKind.u64.wrap (lim n 0 * 2)) (b : Int)), .int .u64 (bits .or .u64 (IntKind.u64.wrap (lim n 1 * 2)) (lim n 0 / 9223372036854775808)),
      .int .u64 (bits .or .u64 (IntKind.u64.wrap (lim n 2 * 2)) (lim n 1 / 9223372036854775808)), .int .u64 (bits .or .u64 (IntKind.u64.wrap (lim n 3 * 2)) (lim n 2 / 9223372036854775808))]) = W (2 * n + b) := by
  have s := fun k => shr63 (lim n k) (lim_lo _ _) (lim_hi _ _)
  rw [or_evenI _ _ (lim_lo _ _) (lim_hi _ _) (by omega) (by omega), or_evenI _ _ (lim_lo _ _) (lim_hi _ _) (s 0).1 (s 0).2, or_evenI _ _ (lim_lo _ _) (lim_hi _ _) (s 1).1 (s 1).2,
    or_evenI _ _ (lim_lo _ _) (lim_hi _ _) (s 2).1 (s 2).2, tw0 n b hb, tw1 n b hb, tw2 n b hb, tw3 n b hb]

def twV (n b : Nat) : Value := .tuple #[W ((2 * n + b) % 2 ^ 256), .int .u64 (((2 * n + b) / 2 ^ 256 : Nat) : Int)]

end Go.Proofs.Ytejbajgpiecjcaa

/- The contract of wide.lessen. -/
namespace Go.Proofs.Ytejbajgpiecjcaa
open Go.RowKit

def lessV (r b m : Nat) : Value := .tuple #[W ((2 * r + b) % m), .bool (decide (m ≤ 2 * r + b))]

end Go.Proofs.Ytejbajgpiecjcaa

/- The contracts of wide.bit, lessen, Len in the generator's form. -/
namespace Go.Proofs.Ytejbajgpiecjcaa
open Go.RowKit
end Go.Proofs.Ytejbajgpiecjcaa
