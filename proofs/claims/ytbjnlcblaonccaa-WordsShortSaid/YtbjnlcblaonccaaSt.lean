/- The state of a walk: the known slots of a frame, the blocks that the call made; a law for each operation; a law for a region that draws its order, which looks at each operation once. -/
import Derived.Test.YtbjnlcblaonccaaRows
import Derived.WalkKit
import Derived.Below
import Derived.Orders
import Derived.Deep.MidRow
import Derived.KernelRfl
import Derived.Lib.Hide
import Derived.Laws.Externs
import Derived.Laws.Rows
import Derived.Laws.AppendOwn
namespace Go.Proofs.Ytbjnlcblaonccaa
open Go.RowKit

abbrev Sl := Nat × Bool × Value
abbrev Bl := Bool × Nat × TypeId × List Value

/-- what a slot holds, as the log of the walk has it -/
def lk : List Sl → Nat → Option Value
  | [], _ => none
  | s :: l, t => bif Nat.beq s.1 t then (bif s.2.1 then some s.2.2 else lk l t) else lk l t
def ev (fs : List Sl) : Operand → Option Value
  | .tmp t => lk fs t
  | .const v => some v
  | .global g => some (.pointer (some ⟨g, 0, none⟩))
  | .func f => some (.func (.func f) #[] #[])
def evs (fs : List Sl) : List Operand → Option (List Value)
  | [] => some []
  | x :: l => match ev fs x, evs fs l with
    | some v, some vs => some (v :: vs)
    | _, _ => none
/-- a write: at the log's head, or where a region's log waits for it -/
def onAt : List Sl → Nat → Value → List Sl
  | [], _, _ => []
  | s :: l, 0, v => (s.1, true, v) :: l
  | s :: l, i + 1, v => s :: onAt l i v
def nos (d : Nat) : List Sl → Nat → Bool
  | [], _ => false
  | s :: _, 0 => Nat.beq s.1 d
  | s :: l, i + 1 => !Nat.beq s.1 d && nos d l i
def putf (m : Option Nat) (fs : List Sl) (d : Nat) (v : Value) : List Sl :=
  match m with
  | none => (d, true, v) :: fs
  | some i => onAt fs i v
def okf (m : Option Nat) (fs : List Sl) (d n : Nat) : Bool :=
  Nat.blt d n && match m with
  | none => true
  | some i => nos d fs i
def putb (m : Option Nat) (bs : List Bl) (e : Bl) : List Bl :=
  match m with
  | none => bs ++ [e]
  | some k => bs.set k e
def okb (m : Option Nat) (bs : List Bl) : Bool :=
  match m with
  | none => true
  | some k => match bs[k]? with
    | some e => !e.1
    | none => false

theorem beqN {a b : Nat} : Nat.beq a b = true ↔ a = b := ⟨Nat.eq_of_beq_eq_true, fun h => h ▸ Nat.beq_refl a⟩
theorem lk_cons_ne {s : Sl} {l : List Sl} {t : Nat} (h : s.1 ≠ t) : lk (s :: l) t = lk l t := by
  have : Nat.beq s.1 t = false := by
    cases hb : Nat.beq s.1 t
    · rfl
    · exact absurd (beqN.1 hb) h
  simp [lk, this]
theorem lk_cons_eq {s : Sl} {l : List Sl} {t : Nat} (h : s.1 = t) : lk (s :: l) t = bif s.2.1 then some s.2.2 else lk l t := by
  simp [lk, beqN.2 h]
theorem lk_on (d : Nat) (v : Value) : ∀ (fs : List Sl) (i : Nat), nos d fs i = true → ∀ t u, lk (onAt fs i v) t = some u → (t = d ∧ u = v) ∨ (t ≠ d ∧ lk fs t = some u)
  | [], _, h, _, _, _ => by simp [nos] at h
  | s :: l, 0, h, t, u, e => by
    have hs : s.1 = d := beqN.1 (by simpa [nos] using h)
    by_cases ht : t = d
    · rw [onAt, lk_cons_eq (by simp [hs, ht])] at e
      exact .inl ⟨ht, by simpa using e.symm⟩
    · rw [onAt, lk_cons_ne (by simp [hs]; exact fun h => ht h.symm)] at e
      exact .inr ⟨ht, by rw [lk_cons_ne (by rw [hs]; exact fun h => ht h.symm)]; exact e⟩
  | s :: l, i + 1, h, t, u, e => by
    simp only [nos, Bool.and_eq_true, Bool.not_eq_true'] at h
    have hs : s.1 ≠ d := fun hh => by rw [beqN.2 hh] at h; simp at h
    by_cases hst : s.1 = t
    · rw [onAt, lk_cons_eq hst] at e
      have htd : t ≠ d := fun hh => hs (hst.trans hh)
      refine .inr ⟨htd, ?_⟩
      rw [lk_cons_eq hst]
      cases hb : s.2.1
      · rw [hb] at e
        rcases lk_on d v l i h.2 t u (by simpa using e) with ⟨h1, _⟩ | ⟨_, h2⟩
        · exact absurd h1 htd
        · simpa using h2
      · rw [hb] at e; simpa using e
    · rw [onAt, lk_cons_ne hst] at e
      rw [lk_cons_ne hst]
      exact lk_on d v l i h.2 t u e
theorem lk_put {m : Option Nat} {fs : List Sl} {d n : Nat} (h : okf m fs d n = true) (v : Value) (t : Nat) (u : Value) (e : lk (putf m fs d v) t = some u) : (t = d ∧ u = v) ∨ (t ≠ d ∧ lk fs t = some u) := by
  cases m with
  | none =>
    by_cases ht : d = t
    · rw [putf, lk_cons_eq ht] at e
      exact .inl ⟨ht.symm, by simpa using e.symm⟩
    · rw [putf, lk_cons_ne ht] at e
      exact .inr ⟨fun h => ht h.symm, e⟩
  | some i => exact lk_on d v fs i (by simp [okf] at h; exact h.2) t u e

/-- what lies in memory apart from the blocks of a state: cells that stay as they are, rows that the call may still append to, lists of byte strings -/
inductive Fz
  | cel (v : Value) (n : Nat) (cs : List Value)
  | own (v : Value) (E : TypeId) (size n : Nat) (xs : List Value)
  | bys (vs : List Value) (ls : List (List UInt8))
  | bysO (G : Nat → Prop) (vs : List Value) (ls : List (List UInt8))
  | wrs (G : Nat → Prop) (vs : List Value) (ns : List Nat)
/-- the blocks that an entry has for itself -/
def Fz.owns : Fz → Nat → Prop
  | .own v _ _ _ _, g => v.ownBlock = some g
  | .bysO G _ _, g => G g
  | .wrs G _ _, g => G g
  | .cel _ _ _, _ => False
  | .bys _ _, _ => False
/-- blocks that may be written: from a number on, and some ahead of it -/
abbrev Bn (n : Nat) (X : Nat → Prop) (g : Nat) : Prop := n ≤ g ∨ X g
def noX : Nat → Prop := fun _ => False
/-- the world is as it was but for new blocks and those of X -/
structure BelowX (X : Nat → Prop) (B : Nat) (w w' : World) : Prop where
  os : w'.os = w.os
  tape : w'.tape = w.tape
  output : w'.output = w.output
  size : w.heap.size ≤ w'.heap.size
  block : ∀ k, k < B → ¬ X k → w'.heap[k]? = w.heap[k]?
theorem BelowX.of {X : Nat → Prop} {B : Nat} {w w' : World} (h : Below B w w') : BelowX X B w w' := ⟨h.os, h.tape, h.output, h.size, fun k hk _ => h.block k hk⟩
theorem BelowX.refl {X : Nat → Prop} (B : Nat) (w : World) : BelowX X B w w := .of (Below.refl B w)
theorem BelowX.trans {X : Nat → Prop} {B : Nat} {a b c : World} (h : BelowX X B a b) (k : BelowX X B b c) : BelowX X B a c :=
  ⟨k.os.trans h.os, k.tape.trans h.tape, k.output.trans h.output, Nat.le_trans h.size k.size, fun i hi hx => (k.block i hi hx).trans (h.block i hi hx)⟩
theorem BelowX.go {X : Nat → Prop} {B : Nat} {a b c : World} (h : BelowX X B a b) (k : Below B b c) : BelowX X B a c := h.trans (.of k)
theorem BelowX.drew {X : Nat → Prop} {B : Nat} {a w : World} (h : BelowX X B a w) : BelowX X B a w.drew := ⟨h.os, h.tape, h.output, h.size, h.block⟩
theorem BelowX.none {B : Nat} {w w' : World} (h : BelowX noX B w w') : Below B w w' := ⟨h.os, h.tape, h.output, h.size, fun k hk => h.block k hk id⟩
theorem BelowX.cell {X : Nat → Prop} {B : Nat} {w w' : World} (h : BelowX X B w w') {p : Addr} (hp : p.block < B) (hx : ¬ X p.block) : w'.cell? p = w.cell? p := World.cell?_of_block (w := w) (h.block p.block hp hx)
theorem BelowX.grown {X : Nat → Prop} {B : Nat} {a w w' : World} {row : Option Nat} (h : BelowX X B a w) (hg : w.grownBy w' row) (hB : B ≤ w.heap.size) (hr : ∀ k, row = some k → Bn B X k) : BelowX X B a w' :=
  h.trans ⟨hg.os, hg.tape, hg.output, hg.size, fun k hk hx => hg.block k (by omega) (fun e => by rcases hr k e.symm with h | h; omega; exact hx h)⟩
def CelV (w : World) (Z : Nat → Prop) (v : Value) (n : Nat) (cs : List Value) : Prop :=
  ∃ a c, v = .slice a n c ∧ n ≤ c ∧ c ≤ maxLen ∧ (a = none → c = 0) ∧ ∀ (j : Nat) (u : Value), cs[j]? = some u → ∃ g off, a = some ⟨g, off, none⟩ ∧ Z g ∧ w.cell? ⟨g, off + j, none⟩ = some u
/-- bytes, as cells -/
def bcs (l : List UInt8) : List Value := l.map fun b => .int .u8 (b.toNat : Int)
def ByV (w : World) (Z : Nat → Prop) (v : Value) (l : List UInt8) : Prop := CelV w Z v l.length (bcs l)
def BysV (w : World) (Z : Nat → Prop) (vs : List Value) (ls : List (List UInt8)) : Prop := vs.length = ls.length ∧ ∀ (i : Nat) (v : Value) (l : List UInt8), vs[i]? = some v → ls[i]? = some l → ByV w Z v l
/-- a slice of bytes, whatever they are -/
def WrV (w : World) (Z : Nat → Prop) (v : Value) (n : Nat) : Prop :=
  ∃ a c, v = .slice a n c ∧ n ≤ c ∧ c ≤ maxLen ∧ (a = none → c = 0) ∧ ∀ (j : Nat), j < n → ∃ g off u, a = some ⟨g, off, none⟩ ∧ Z g ∧ w.cell? ⟨g, off + j, none⟩ = some u
def WrsV (w : World) (Z : Nat → Prop) (vs : List Value) (ns : List Nat) : Prop := vs.length = ns.length ∧ ∀ (i : Nat) (v : Value) (n : Nat), vs[i]? = some v → ns[i]? = some n → WrV w Z v n
/-- blocks that may be written, all of them cells -/
def OwnG (w : World) (Z B G : Nat → Prop) : Prop := ∀ g, G g → B g ∧ Z g ∧ ∃ cur T, w.heap[g]? = some (.cells cur T (0, 0))
def Fz.ok (w : World) (Z : Nat → Prop) (B : Nat → Prop) : Fz → Prop
  | .cel v n cs => CelV w Z v n cs
  | .own v E size n xs => w.ownsRow 0 E size v n xs ∧ ∀ g, v.ownBlock = some g → Z g ∧ B g
  | .bys vs ls => BysV w Z vs ls
  | .bysO G vs ls => BysV w G vs ls ∧ OwnG w Z B G
  | .wrs G vs ns => WrsV w G vs ns ∧ OwnG w Z B G
/-- the world ahead of the call, blocks that stay as they are, what lies beside them, and which blocks the call may trust -/
structure Bs where
  w : World
  F : List (Nat × Obj)
  S : List (Bool × Fz)
  Z : Nat → Prop
  X : Nat → Prop
instance : Coe World Bs := ⟨fun w => ⟨w, [], [], fun _ => True, noX⟩⟩
abbrev Bs.B (b : Bs) : Nat → Prop := Bn b.w.heap.size b.X
abbrev Bs.heap (b : Bs) : Array Obj := b.w.heap
abbrev Bs.cell? (b : Bs) (p : Addr) : Option Value := b.w.cell? p
/-- the blocks that entry i of the list beside may lie in -/
def Zs (w0 : Bs) (bs : List Bl) (i : Nat) (g : Nat) : Prop :=
  (w0.Z g ∨ w0.B g) ∧ (∀ (j : Nat) (b : Bl), bs[j]? = some b → b.1 = true → b.2.1 ≠ g) ∧ ∀ (j : Nat) (e : Bool × Fz), j ≠ i → w0.S[j]? = some e → e.1 = true → ¬ e.2.owns g
theorem CelV.mono {w w' : World} {Z Z' : Nat → Prop} {v : Value} {n : Nat} {cs : List Value} (h : CelV w Z v n cs) (hz : ∀ g, Z g → g < w.heap.size → Z' g ∧ w'.heap[g]? = w.heap[g]?) : CelV w' Z' v n cs := by
  obtain ⟨a, c, h1, h2, h3, h4, h5⟩ := h
  refine ⟨a, c, h1, h2, h3, h4, fun j u hu => ?_⟩
  obtain ⟨g, off, e, hg, hc⟩ := h5 j u hu
  have hlt : g < w.heap.size := World.block_lt_of_cell? w _ hc
  exact ⟨g, off, e, (hz g hg hlt).1, (World.cell?_of_block (w := w) (hz g hg hlt).2).trans hc⟩
theorem WrV.mono {w w' : World} {Z Z' : Nat → Prop} {v : Value} {n : Nat} (h : WrV w Z v n) (hz : ∀ g, Z g → g < w.heap.size → Z' g ∧ w'.heap[g]? = w.heap[g]?) : WrV w' Z' v n := by
  obtain ⟨a, c, h1, h2, h3, h4, h5⟩ := h
  refine ⟨a, c, h1, h2, h3, h4, fun j hj => ?_⟩
  obtain ⟨g, off, u, e, hg, hc⟩ := h5 j hj
  have hlt : g < w.heap.size := World.block_lt_of_cell? w _ hc
  exact ⟨g, off, u, e, (hz g hg hlt).1, (World.cell?_of_block (w := w) (hz g hg hlt).2).trans hc⟩
theorem BysV.mono {w w' : World} {Z Z' : Nat → Prop} {vs : List Value} {ls : List (List UInt8)} (h : BysV w Z vs ls) (hz : ∀ g, Z g → g < w.heap.size → Z' g ∧ w'.heap[g]? = w.heap[g]?) : BysV w' Z' vs ls :=
  ⟨h.1, fun i v l hv hl => (h.2 i v l hv hl).mono hz⟩
theorem OwnG.lt {w : World} {Z B G : Nat → Prop} (h : OwnG w Z B G) {g : Nat} (hg : G g) : g < w.heap.size := by
  obtain ⟨_, _, cur, T, h1⟩ := h g hg
  exact (Array.getElem?_eq_some_iff.1 h1).1
theorem OwnG.mono {w w' : World} {Z Z' B B' G : Nat → Prop} (hb : ∀ g, G g → B g → B' g) (h : OwnG w Z B G) (hz : ∀ g, Z g → g < w.heap.size → Z' g ∧ w'.heap[g]? = w.heap[g]?) : OwnG w' Z' B' G := by
  intro g hg
  have hlt := h.lt hg
  obtain ⟨h1, h2, cur, T, h3⟩ := h g hg
  exact ⟨hb g hg h1, (hz g h2 hlt).1, cur, T, (hz g h2 hlt).2.trans h3⟩
theorem Fz.ok_mono {w w' : World} {Z Z' : Nat → Prop} {B B' : Nat → Prop} {e : Fz} (hb : ∀ g, e.owns g → B g → B' g) (hz : ∀ g, Z g → g < w.heap.size → Z' g ∧ w'.heap[g]? = w.heap[g]?) (h : e.ok w Z B) : e.ok w' Z' B' := by
  cases e with
  | cel _ _ _ => exact CelV.mono h hz
  | bys _ _ => exact BysV.mono h hz
  | bysO G _ _ => exact ⟨h.1.mono fun g hg hlt => ⟨hg, (hz g (h.2 g hg).2.1 hlt).2⟩, OwnG.mono hb h.2 hz⟩
  | wrs G _ _ => exact ⟨⟨h.1.1, fun i v n hv hn => (h.1.2 i v n hv hn).mono fun g hg hlt => ⟨hg, (hz g (h.2 g hg).2.1 hlt).2⟩⟩, OwnG.mono hb h.2 hz⟩
  | own v E size n xs =>
    obtain ⟨⟨h1, h2⟩, h3⟩ := h
    rcases h2 with ⟨rfl, h2⟩ | ⟨g, cap, cur, rfl, k1, k2, k3⟩
    · exact ⟨⟨h1, .inl ⟨rfl, h2⟩⟩, fun g hg => by cases hg⟩
    · have hg := h3 g rfl
      have hlt : g < w.heap.size := (Array.getElem?_eq_some_iff.1 k2).1
      have h4 := hz g hg.1 hlt
      exact ⟨⟨h1, .inr ⟨g, cap, cur, rfl, k1, h4.2.trans k2, k3⟩⟩, fun g' hg' => by
        have : g = g' := by simpa [Value.ownBlock] using hg'
        exact this ▸ ⟨h4.1, hb g rfl hg.2⟩⟩
/-- what an entry owns is there -/
theorem Fz.ok_lt {w : World} {Z B : Nat → Prop} {g : Nat} : ∀ {e : Fz}, e.ok w Z B → e.owns g → g < w.heap.size ∧ Z g ∧ B g
  | .cel _ _ _, _, ho => ho.elim
  | .bys _ _, _, ho => ho.elim
  | .bysO G _ _, h, ho => ⟨h.2.lt ho, (h.2 g ho).2.1, (h.2 g ho).1⟩
  | .wrs G _ _, h, ho => ⟨h.2.lt ho, (h.2 g ho).2.1, (h.2 g ho).1⟩
  | .own v E size n xs, h, ho => by
    have h3 := h.2 g ho
    refine ⟨?_, h3.1, h3.2⟩
    rcases h.1.2 with ⟨rfl, _⟩ | ⟨g', cap, cur, rfl, _, k2, _⟩
    · cases ho
    · have : g' = g := by simpa [Fz.owns, Value.ownBlock] using ho
      exact this ▸ (Array.getElem?_eq_some_iff.1 k2).1
/-- the state -/
structure St (n : Nat) (w0 : Bs) (fs : List Sl) (bs : List Bl) (a : Act) (w : World) : Prop where
  size : a.tmps.size = n
  defers : a.defers = []
  slots : ∀ t v, lk fs t = some v → a.tmps[t]? = some v
  blks : ∀ (i : Nat) (e : Bl), bs[i]? = some e → e.1 = true → w.heap[e.2.1]? = some (.cells e.2.2.2.toArray e.2.2.1 (0, 0)) ∧ w0.B e.2.1
  apart : ∀ (i j : Nat) (e e' : Bl), i ≠ j → bs[i]? = some e → bs[j]? = some e' → e.1 = true → e'.1 = true → e.2.1 ≠ e'.2.1
  below : BelowX w0.X w0.w.heap.size w0.w w
  frz : ∀ p ∈ w0.F, w.heap[p.1]? = some p.2 ∧ ∀ (i : Nat) (e : Bl), bs[i]? = some e → e.1 = true → e.2.1 ≠ p.1
  fz : ∀ (i : Nat) (e : Bool × Fz), w0.S[i]? = some e → e.1 = true → e.2.ok w (Zs w0 bs i) w0.B

section
variable {P : Program} {n : Nat} {w0 : Bs} {fs : List Sl} {bs : List Bl} {a : Act} {w : World} {Q : Exit → Act → World → Prop} {K : Act → World → Prop} {o : Oper}

theorem St.ev (hs : St n w0 fs bs a w) {x : Operand} {v : Value} (h : ev fs x = some v) : a.eval x = v := by
  cases x with
  | tmp t => simp [Act.eval, hs.slots t v h]
  | const c => simpa [Go.Proofs.Ytbjnlcblaonccaa.ev, Act.eval] using h
  | global g => simpa [Go.Proofs.Ytbjnlcblaonccaa.ev, Act.eval] using h
  | func f => simpa [Go.Proofs.Ytbjnlcblaonccaa.ev, Act.eval] using h
theorem St.evs (hs : St n w0 fs bs a w) : ∀ {l : List Operand} {vs : List Value}, evs fs l = some vs → l.map a.eval = vs
  | [], vs, h => by simpa [Go.Proofs.Ytbjnlcblaonccaa.evs] using h
  | x :: l, vs, h => by
    unfold Go.Proofs.Ytbjnlcblaonccaa.evs at h
    split at h
    · rename_i v vs' h1 h2
      obtain rfl : v :: vs' = vs := by simpa using h
      rw [List.map_cons, hs.ev h1, hs.evs h2]
    · cases h
theorem St.blk (hs : St n w0 fs bs a w) {k g : Nat} {T : TypeId} {cs : List Value} (h : bs[k]? = some (true, g, T, cs)) : w.heap[g]? = some (.cells cs.toArray T (0, 0)) := (hs.blks k _ h rfl).1
theorem St.drew (hs : St n w0 fs bs a w) : St n w0 fs bs a w.drew := ⟨hs.size, hs.defers, hs.slots, hs.blks, hs.apart, hs.below.drew, hs.frz, fun i e h h1 => Fz.ok_mono (fun _ _ h => h) (fun g hg _ => ⟨hg, rfl⟩) (hs.fz i e h h1)⟩
theorem St.skip (hs : St n w0 fs bs a w) {d : Nat} {v : Value} : St n w0 ((d, false, v) :: fs) bs a w :=
  ⟨hs.size, hs.defers, fun t u h => hs.slots t u (by
    by_cases e : d = t
    · rw [lk_cons_eq e] at h; simpa using h
    · rw [lk_cons_ne e] at h; exact h), hs.blks, hs.apart, hs.below, hs.frz, hs.fz⟩
theorem St.pad (hs : St n w0 fs bs a w) {g : Nat} {T : TypeId} {cs : List Value} : St n w0 fs (bs ++ [(false, g, T, cs)]) a w := by
  have key : ∀ (i : Nat) (e : Bl), (bs ++ [(false, g, T, cs)])[i]? = some e → e.1 = true → bs[i]? = some e := by
    intro i e h h1
    rw [List.getElem?_append] at h
    split at h
    · exact h
    · obtain ⟨hlt, rfl⟩ := List.getElem?_eq_some_iff.1 h
      simp at h1
  exact ⟨hs.size, hs.defers, hs.slots, fun i e h h1 => hs.blks i e (key i e h h1) h1, fun i j e e' hij h h' h1 h1' => hs.apart i j e e' hij (key i e h h1) (key j e' h' h1') h1 h1', hs.below, fun p hp => ⟨(hs.frz p hp).1, fun i e h h1 => (hs.frz p hp).2 i e (key i e h h1) h1⟩, fun i e h h1 => Fz.ok_mono (fun _ _ h => h) (fun g hg _ => ⟨⟨hg.1, fun j b hb hb1 => hg.2.1 j b (key j b hb hb1) hb1, hg.2.2⟩, rfl⟩) (hs.fz i e h h1)⟩
theorem St.put (hs : St n w0 fs bs a w) {m : Option Nat} {d : Nat} (h : okf m fs d n = true) (v : Value) : St n w0 (putf m fs d v) bs (a.put (some d) v) w :=
  ⟨by simp [Act.put, hs.size], hs.defers, fun t u e => by
    rcases lk_put h v t u e with ⟨rfl, rfl⟩ | ⟨hne, h2⟩
    · have hlt : t < a.tmps.size := by rw [hs.size]; simp [okf] at h; exact h.1
      simp [Act.put, Array.getElem?_setIfInBounds, hlt]
    · show (a.tmps.setIfInBounds d v)[t]? = _
      rw [Array.getElem?_setIfInBounds_ne (fun e => hne e.symm)]
      exact hs.slots t u h2, hs.blks, hs.apart, hs.below, hs.frz, hs.fz⟩
theorem St.lt (hs : St n w0 fs bs a w) {i : Nat} {e : Bl} (h : bs[i]? = some e) (h1 : e.1 = true) : e.2.1 < w.heap.size := by
  have := (hs.blks i e h h1).1
  exact (Array.getElem?_eq_some_iff.1 this).1
theorem St.bel (hs : St n w0 fs bs a w) (hX : w0.X = noX) : Below w0.w.heap.size w0.w w := by
  have := hs.below
  rw [hX] at this
  exact this.none
theorem St.own0 (hs : St n w0 fs bs a w) (hX : w0.X = noX) {i : Nat} {e : Bl} (h : bs[i]? = some e) (h1 : e.1 = true) : w0.w.heap.size ≤ e.2.1 := by
  rcases (hs.blks i e h h1).2 with h2 | h2
  · exact h2
  · rw [hX] at h2; exact h2.elim
theorem St.flt (hs : St n w0 fs bs a w) {p : Nat × Obj} (hp : p ∈ w0.F) : p.1 < w.heap.size := (Array.getElem?_eq_some_iff.1 (hs.frz p hp).1).1
/-- the world goes on, nothing old turns -/
theorem St.grow (hs : St n w0 fs bs a w) {w' : World} (hb : Below w.heap.size w w') : St n w0 fs bs a w' :=
  ⟨hs.size, hs.defers, hs.slots, fun i e h h1 => ⟨(hb.block _ (hs.lt h h1)).trans (hs.blks i e h h1).1, (hs.blks i e h h1).2⟩, hs.apart, hs.below.go (hb.mono hs.below.size), fun p hp => ⟨(hb.block _ (hs.flt hp)).trans (hs.frz p hp).1, (hs.frz p hp).2⟩, fun i e h h1 => Fz.ok_mono (fun _ _ h => h) (fun g hg hlt => ⟨hg, hb.block g hlt⟩) (hs.fz i e h h1)⟩
theorem St.add (hs : St n w0 fs bs a w) {m : Option Nat} (hm : okb m bs = true) {w' : World} (hb : Below w.heap.size w w') {g : Nat} (hg : w.heap.size ≤ g) {T : TypeId} {cs : List Value} (hc : w'.heap[g]? = some (.cells cs.toArray T (0, 0))) :
    St n w0 fs (putb m bs (true, g, T, cs)) a w' := by
  have h0 := hs.grow hb
  have key : ∃ k : Nat, ∀ (i : Nat) (e : Bl), (putb m bs (true, g, T, cs))[i]? = some e → (i = k ∧ e = (true, g, T, cs)) ∨ (i ≠ k ∧ bs[i]? = some e) := by
    cases m with
    | none =>
      refine ⟨bs.length, fun i e h => ?_⟩
      rw [putb, List.getElem?_append] at h
      split at h
      · rename_i hlt; exact .inr ⟨by omega, h⟩
      · rename_i hge
        obtain ⟨hlt, rfl⟩ := List.getElem?_eq_some_iff.1 h
        simp at hlt
        exact .inl ⟨by omega, by simp⟩
    | some k =>
      refine ⟨k, fun i e h => ?_⟩
      rw [putb, List.getElem?_set] at h
      split at h
      · rename_i hik
        split at h
        · exact .inl ⟨hik.symm, by simpa using h.symm⟩
        · cases h
      · rename_i hik; exact .inr ⟨fun e => hik e.symm, h⟩
  obtain ⟨k, key⟩ := key
  refine ⟨h0.size, h0.defers, h0.slots, fun i e h h1 => ?_, fun i j e e' hij h h' h1 h1' => ?_, h0.below, fun p hp => ⟨(h0.frz p hp).1, fun i e h h1 => ?_⟩, fun i e h h1 => ?_⟩
  · rcases key i e h with ⟨_, rfl⟩ | ⟨_, h2⟩
    · exact ⟨hc, .inl (Nat.le_trans hs.below.size hg)⟩
    · exact h0.blks i e h2 h1
  · rcases key i e h with ⟨hi, rfl⟩ | ⟨hi, h2⟩ <;> rcases key j e' h' with ⟨hj, rfl⟩ | ⟨hj, h2'⟩
    · exact absurd (hi.trans hj.symm) hij
    · have := hs.lt h2' h1'
      show g ≠ e'.2.1
      omega
    · have := hs.lt h2 h1
      show e.2.1 ≠ g
      omega
    · exact h0.apart i j e e' hij h2 h2' h1 h1'
  · rcases key i e h with ⟨_, rfl⟩ | ⟨_, h2⟩
    · have := hs.flt hp
      show g ≠ p.1
      omega
    · exact (h0.frz p hp).2 i e h2 h1
  · refine Fz.ok_mono (fun _ _ h => h) (fun x hx hlt => ⟨⟨hx.1, fun j b hb1 hb2 => ?_, hx.2.2⟩, hb.block x hlt⟩) (hs.fz i e h h1)
    rcases key j b hb1 with ⟨_, rfl⟩ | ⟨_, h2⟩
    · show g ≠ x
      omega
    · exact hx.2.1 j b h2 hb2
def wr (cs : List Value) (i : Nat) : List Value → List Value
  | [] => cs
  | v :: vs => wr (cs.set i v) (i + 1) vs
theorem wr_length : ∀ (vs : List Value) (cs : List Value) (i : Nat), (wr cs i vs).length = cs.length
  | [], _, _ => rfl
  | v :: vs, cs, i => by rw [wr, wr_length vs]; simp
theorem heap_setCells_at (g : Nat) (T : TypeId) : ∀ (vs : List Value) (i : Nat) (w : World) (cs : List Value), w.heap[g]? = some (.cells cs.toArray T (0, 0)) → (w.setCells g i vs).heap[g]? = some (.cells (wr cs i vs).toArray T (0, 0))
  | [], _, _, _, h => h
  | v :: vs, i, w, cs, h => by
    refine heap_setCells_at g T vs (i + 1) _ _ ?_
    simp [World.setCell, Array.getElem?_modify, h]
theorem heap_setCells_far (g k : Nat) (hk : k ≠ g) : ∀ (vs : List Value) (i : Nat) (w : World), (w.setCells g i vs).heap[k]? = w.heap[k]?
  | [], _, _ => rfl
  | v :: vs, i, w => (heap_setCells_far g k hk vs (i + 1) _).trans (Below.heap_setCell _ _ _ _ hk)
theorem setCells_rest (g : Nat) : ∀ (vs : List Value) (i : Nat) (w : World), (w.setCells g i vs).os = w.os ∧ (w.setCells g i vs).tape = w.tape ∧ (w.setCells g i vs).output = w.output ∧ (w.setCells g i vs).heap.size = w.heap.size
  | [], _, _ => ⟨rfl, rfl, rfl, rfl⟩
  | v :: vs, i, w => by
    obtain ⟨h1, h2, h3, h4⟩ := setCells_rest g vs (i + 1) (w.setCell ⟨g, i, none⟩ v)
    exact ⟨h1, h2, h3, h4.trans (by simp [World.setCell])⟩
theorem St.store (hs : St n w0 fs bs a w) {k g : Nat} {T : TypeId} {cs : List Value} (h : bs[k]? = some (true, g, T, cs)) (i : Nat) (vs : List Value) : St n w0 fs (bs.set k (true, g, T, wr cs i vs)) a (w.setCells g i vs) := by
  obtain ⟨r1, r2, r3, r4⟩ := setCells_rest g vs i w
  have hg := (hs.blks k _ h rfl).2
  have hk : k < bs.length := (List.getElem?_eq_some_iff.1 h).1
  have key : ∀ j (e : Bl), (bs.set k (true, g, T, wr cs i vs))[j]? = some e → (j = k ∧ e = (true, g, T, wr cs i vs)) ∨ (j ≠ k ∧ bs[j]? = some e) := by
    intro j e h
    rw [List.getElem?_set] at h
    split at h
    · rename_i hik
      first
        | exact .inl ⟨hik.symm, by simpa using h.symm⟩
        | (split at h
           · exact .inl ⟨hik.symm, by simpa using h.symm⟩
           · cases h)
    · rename_i hik; exact .inr ⟨fun e => hik e.symm, h⟩
  refine ⟨hs.size, hs.defers, hs.slots, fun j e h' h1 => ?_, fun i' j e e' hij h' h'' h1 h1' => ?_, ?_, fun p hp => ⟨(heap_setCells_far g p.1 (fun e => (hs.frz p hp).2 k _ h rfl e.symm) vs i w).trans (hs.frz p hp).1, fun j e h' h1 => ?_⟩, fun j e h' h1 => ?_⟩
  · rcases key j e h' with ⟨_, rfl⟩ | ⟨hj, h2⟩
    · exact ⟨heap_setCells_at g T vs i w cs (hs.blk h), hg⟩
    · have hne : e.2.1 ≠ g := hs.apart j k e (true, g, T, cs) hj h2 h h1 rfl
      exact ⟨(heap_setCells_far g _ hne vs i w).trans (hs.blks j e h2 h1).1, (hs.blks j e h2 h1).2⟩
  · rcases key i' e h' with ⟨hi, rfl⟩ | ⟨hi, h2⟩ <;> rcases key j e' h'' with ⟨hj, rfl⟩ | ⟨hj, h2'⟩
    · exact absurd (hi.trans hj.symm) hij
    · exact hs.apart k j (true, g, T, cs) e' (fun e => hij (hi.trans e)) h h2' rfl h1'
    · exact hs.apart i' k e (true, g, T, cs) (fun e => hij (e.trans hj.symm)) h2 h h1 rfl
    · exact hs.apart i' j e e' hij h2 h2' h1 h1'
  · refine ⟨r1.trans hs.below.os, r2.trans hs.below.tape, r3.trans hs.below.output, by rw [r4]; exact hs.below.size, fun j hj hx => ?_⟩
    have hjg : j ≠ g := fun e => by
      rcases hg with hg | hg
      · have hg' : w0.w.heap.size ≤ g := hg
        omega
      · exact hx (e ▸ hg)
    exact (heap_setCells_far g j hjg vs i w).trans (hs.below.block j hj hx)
  · rcases key j e h' with ⟨_, rfl⟩ | ⟨_, h2⟩
    · exact (hs.frz p hp).2 k (true, g, T, cs) h rfl
    · exact (hs.frz p hp).2 j e h2 h1
  · refine Fz.ok_mono (fun _ _ h => h) (fun x hx hlt => ⟨⟨hx.1, fun j' b hb1 hb2 => ?_, hx.2.2⟩, heap_setCells_far g x (fun e => hx.2.1 k _ h rfl e.symm) vs i w⟩) (hs.fz j e h' h1)
    rcases key j' b hb1 with ⟨_, rfl⟩ | ⟨_, h2⟩
    · exact hx.2.1 k (true, g, T, cs) h rfl
    · exact hx.2.1 j' b h2 hb2

/-- the start of a call -/
def idx : Nat → List Value → List Sl
  | _, [] => []
  | k, v :: l => (k, true, v) :: idx (k + 1) l
theorem lk_idx : ∀ (l : List Value) (k t : Nat) (v : Value), lk (idx k l) t = some v → k ≤ t ∧ l[t - k]? = some v
  | [], _, _, _, h => by simp [idx, lk] at h
  | u :: l, k, t, v, h => by
    by_cases e : k = t
    · rw [idx, lk_cons_eq e] at h
      subst e
      exact ⟨Nat.le_refl _, by simpa using h⟩
    · rw [idx, lk_cons_ne e] at h
      obtain ⟨h1, h2⟩ := lk_idx l (k + 1) t v h
      refine ⟨by omega, ?_⟩
      rw [show t - k = (t - (k + 1)) + 1 by omega]
      simpa using h2
theorem enter {f : FuncId} {fn : Func} {c : Code} {args : List Value} {w : World} {R : Ending → World → Prop} {n : Nat} (hf : P.funcs[f]? = some fn) (hb : fn.body = some c) (hn : fn.ntmps = n) (hle : args.length ≤ n)
    (h : ∀ a, St n w (idx 0 args) [] a w → c.wp P (bodyPost P fn R) a w) : Calls P f args.toArray w R := by
  refine calls_of_wp hf hb (h _ ⟨?_, rfl, ?_, ?_, ?_, BelowX.refl _ _, (fun p hp => nomatch hp), fun i e h => by simp at h⟩)
  · subst hn; simp; omega
  · intro t v h
    obtain ⟨_, h2⟩ := lk_idx args 0 t v h
    have hlt : t < args.length := (List.getElem?_eq_some_iff.1 h2).1
    rw [Array.getElem?_append_left (by simpa using hlt)]
    simpa using h2
  · intro i e h; simp at h
  · intro i j e e' _ h; simp at h

/-- entries that own nothing -/
def Fz.ownless : Fz → Bool
  | .cel _ _ _ => true
  | .bys _ _ => true
  | _ => false
theorem Fz.ownless_no {e : Fz} (h : e.ownless = true) (g : Nat) : ¬ e.owns g := by
  cases e <;> simp [Fz.ownless, Fz.owns] at h ⊢
/-- the same, where something is known of what lies in memory -/
theorem enterS {f : FuncId} {fn : Func} {c : Code} {args : List Value} {w : World} {R : Ending → World → Prop} {n : Nat} {S : List (Bool × Fz)} {Z : Nat → Prop} (hf : P.funcs[f]? = some fn) (hb : fn.body = some c) (hn : fn.ntmps = n) (hle : args.length ≤ n)
    (hS : ∀ (i : Nat) (e : Bool × Fz), S[i]? = some e → e.1 = true → e.2.ok w Z (Bn w.heap.size noX)) (ho : (S.all fun e => e.2.ownless) = true)
    (h : ∀ a, St n ⟨w, [], S, Z, noX⟩ (idx 0 args) [] a w → c.wp P (bodyPost P fn R) a w) : Calls P f args.toArray w R := by
  refine calls_of_wp hf hb (h _ ⟨?_, rfl, ?_, ?_, ?_, BelowX.refl _ _, (fun p hp => nomatch hp), fun i e h h1 => ?_⟩)
  · subst hn; simp; omega
  · intro t v h
    obtain ⟨_, h2⟩ := lk_idx args 0 t v h
    have hlt : t < args.length := (List.getElem?_eq_some_iff.1 h2).1
    rw [Array.getElem?_append_left (by simpa using hlt)]
    simpa using h2
  · intro i e h; simp at h
  · intro i j e e' _ h; simp at h
  · refine Fz.ok_mono (fun _ _ h => h) (fun g hg _ => ⟨⟨.inl hg, fun j b hb => by simp at hb, fun j e' _ hj _ he => ?_⟩, rfl⟩) (hS i e h h1)
    exact Fz.ownless_no ((List.all_eq_true.1 ho) e' (List.mem_of_getElem? hj)) g he

/-- what the operations do -/
theorem op_val (hs : St n w0 fs bs a w) {v : Value} (m : Option Nat) {d : Nat} (hd : o.dst = some d) (hok : okf m fs d n = true) (hr : (execOp a.eval o).run P w = .ok (.value v) w)
    (h : ∀ a', St n w0 (putf m fs d v) bs a' w → K a' w) : o.wp P a w K Q := by
  unfold Oper.wp
  rw [hr, Oper.upon_value, hd]
  exact h _ (hs.put hok v)
theorem op_move (hs : St n w0 fs bs a w) (m : Option Nat) {x : Operand} {v : Value} {d : Nat} (ho : o.op = .move x) (hd : o.dst = some d) (hx : ev fs x = some v) (hok : okf m fs d n = true)
    (h : ∀ a', St n w0 (putf m fs d v) bs a' w → K a' w) : o.wp P a w K Q :=
  op_val hs m hd hok (by unfold execOp; rw [ho]; simp only [hs.ev hx]; rfl) h
theorem op_assign (hs : St n w0 fs bs a w) (m : Option Nat) {x : Operand} {v : Value} {d : Nat} (ho : o.op = .assign x) (hd : o.dst = some d) (hx : ev fs x = some v) (hok : okf m fs d n = true)
    (h : ∀ a', St n w0 (putf m fs d v) bs a' w → K a' w) : o.wp P a w K Q :=
  op_val hs m hd hok (by unfold execOp; rw [ho]; simp only [hs.ev hx]; rfl) h
theorem op_extract (hs : St n w0 fs bs a w) (m : Option Nat) {x : Operand} {vs : Array Value} {i : Nat} {v : Value} {d : Nat} (ho : o.op = .extract x i) (hd : o.dst = some d) (hx : ev fs x = some (.tuple vs)) (hv : vs[i]? = some v) (hok : okf m fs d n = true)
    (h : ∀ a', St n w0 (putf m fs d v) bs a' w → K a' w) : o.wp P a w K Q :=
  op_val hs m hd hok (by unfold execOp; rw [ho]; simp only [hs.ev hx, Instr.extract, hv]; rfl) h
theorem op_bin (hs : St n w0 fs bs a w) (m : Option Nat) {b : BinOp} {T U : TypeId} {x y : Operand} {vx vy v : Value} {d : Nat} (ho : o.op = .binOp b T x y U) (hd : o.dst = some d) (hx : ev fs x = some vx) (hy : ev fs y = some vy)
    (hg : ∀ w, (eqGuard b T x y vx vy).run P w = .ok () w) (hr : ∀ w, (binOp b T vx vy).run P w = .ok v w) (hok : okf m fs d n = true)
    (h : ∀ a', St n w0 (putf m fs d v) bs a' w → K a' w) : o.wp P a w K Q :=
  op_val hs m hd hok (by unfold execOp; rw [ho]; simp [hs.ev hx, hs.ev hy, Sem.run_bind, hg, hr, Result.andThen]) h
theorem op_un (hs : St n w0 fs bs a w) (m : Option Nat) {b : UnOp} {T : TypeId} {x : Operand} {vx v : Value} {d : Nat} (ho : o.op = .unOp b T x) (hd : o.dst = some d) (hx : ev fs x = some vx)
    (hr : ∀ w, (Op.unary b vx).run P w = .ok v w) (hok : okf m fs d n = true)
    (h : ∀ a', St n w0 (putf m fs d v) bs a' w → K a' w) : o.wp P a w K Q :=
  op_val hs m hd hok (by unfold execOp; rw [ho]; simp [hs.ev hx, Sem.run_bind, hr, Result.andThen]) h
theorem op_convert (hs : St n w0 fs bs a w) (m : Option Nat) {T U : TypeId} {x : Operand} {vx v : Value} {d : Nat} (ho : o.op = .convert T U x) (hd : o.dst = some d) (hx : ev fs x = some vx)
    (hr : ∀ w, (convert T U vx).run P w = .ok v w) (hok : okf m fs d n = true)
    (h : ∀ a', St n w0 (putf m fs d v) bs a' w → K a' w) : o.wp P a w K Q :=
  op_val hs m hd hok (by unfold execOp; rw [ho]; simp [hs.ev hx, Sem.run_bind, hr, Result.andThen]) h
theorem op_field (hs : St n w0 fs bs a w) (m : Option Nat) {T : TypeId} {x : Operand} {i : Nat} {vx v : Value} {d : Nat} (ho : o.op = .field T x i) (hd : o.dst = some d) (hx : ev fs x = some vx)
    (hr : ∀ w, (Instr.field T vx i).run P w = .ok v w) (hok : okf m fs d n = true)
    (h : ∀ a', St n w0 (putf m fs d v) bs a' w → K a' w) : o.wp P a w K Q :=
  op_val hs m hd hok (by unfold execOp; rw [ho]; simp [hs.ev hx, Sem.run_bind, hr, Result.andThen]) h
theorem op_index (hs : St n w0 fs bs a w) (m : Option Nat) {T : TypeId} {x y : Operand} {vx vy v : Value} {d : Nat} (ho : o.op = .index T x y) (hd : o.dst = some d) (hx : ev fs x = some vx) (hy : ev fs y = some vy)
    (hr : ∀ w, (Instr.index T vx vy).run P w = .ok v w) (hok : okf m fs d n = true)
    (h : ∀ a', St n w0 (putf m fs d v) bs a' w → K a' w) : o.wp P a w K Q :=
  op_val hs m hd hok (by unfold execOp; rw [ho]; simp [hs.ev hx, hs.ev hy, Sem.run_bind, hr, Result.andThen]) h
theorem op_build (hs : St n w0 fs bs a w) (m : Option Nat) {T : TypeId} {ps : Array (Nat × Operand)} {qs : List (Nat × Value)} {v : Value} {d : Nat} (ho : o.op = .build T ps) (hd : o.dst = some d)
    (hx : evs fs (ps.toList.map (·.2)) = some (qs.map (·.2))) (hi : ps.toList.map (·.1) = qs.map (·.1))
    (hr : ∀ w, (Instr.build T qs.toArray).run P w = .ok v w) (hok : okf m fs d n = true)
    (h : ∀ a', St n w0 (putf m fs d v) bs a' w → K a' w) : o.wp P a w K Q := by
  have hq : ps.map (fun (p : Nat × Operand) => (p.1, a.eval p.2)) = qs.toArray := by
    have h1 := hs.evs hx
    apply Array.ext'
    simp only [Array.toList_map]
    rw [List.map_map] at h1
    apply List.ext_getElem?
    intro j
    have e1 := congrArg (·[j]?) h1
    have e2 := congrArg (·[j]?) hi
    simp only [List.getElem?_map] at e1 e2 ⊢
    cases hp : ps.toList[j]? with
    | none =>
      rw [hp] at e1
      cases hq : qs[j]? with
      | none => rfl
      | some q => rw [hq] at e1; simp at e1
    | some p =>
      rw [hp] at e1 e2
      cases hq : qs[j]? with
      | none => rw [hq] at e1; simp at e1
      | some q =>
        rw [hq] at e1 e2
        simp at e1 e2
        simp [e1, e2]
  refine op_val hs m hd hok ?_ h
  unfold execOp
  rw [ho]
  simp only [hq]
  rw [Sem.run_bind, hr]
  rfl
theorem op_call {F : FuncId} (hs : St n w0 fs bs a w) (m : Option Nat) {f : Operand} {xs : Array Operand} {ts : Array TypeId} {vs : List Value} {v : Value} {d : Nat} (ho : o.op = .call ⟨.value f, xs, ts⟩) (hd : o.dst = some d)
    (hf : ev fs f = some (.func (.func F) #[] #[])) (hx : evs fs xs.toList = some vs) (hcl : ∀ w, (callFunc F vs.toArray).run P w = .ok (.enter F vs.toArray) w)
    (hc : ∀ w, Calls P F vs.toArray w fun e w' => e = .returned v ∧ Below w.heap.size w w') (hok : okf m fs d n = true)
    (h : ∀ a' w', St n w0 (putf m fs d v) bs a' w' → K a' w') : o.wp P a w K Q := by
  have hm : xs.map a.eval = vs.toArray := by
    have := hs.evs hx
    rw [← this, ← Array.toList_map]
  unfold Oper.wp execOp
  rw [ho]
  simp only [resolve, hs.ev hf, hm, Deferred.ofValue, Sem.run_bind, Sem.run_pure, Result.andThen_ok, invoke, Array.empty_append, Array.append_empty, hcl, Oper.upon_enter, hd]
  refine (hc w).mono ?_
  rintro e w' ⟨rfl, hb⟩
  exact h _ _ ((hs.grow hb).put hok v)
theorem op_ext {F : FuncId} (hs : St n w0 fs bs a w) (m : Option Nat) {f : Operand} {xs : Array Operand} {ts : Array TypeId} {vs : List Value} {v : Value} {d : Nat} (ho : o.op = .call ⟨.value f, xs, ts⟩) (hd : o.dst = some d)
    (hf : ev fs f = some (.func (.func F) #[] #[])) (hx : evs fs xs.toList = some vs) (hcl : ∀ w, (callFunc F vs.toArray).run P w = .ok (.value v) w) (hok : okf m fs d n = true)
    (h : ∀ a', St n w0 (putf m fs d v) bs a' w → K a' w) : o.wp P a w K Q := by
  have hm : xs.map a.eval = vs.toArray := by
    have := hs.evs hx
    rw [← this, ← Array.toList_map]
  unfold Oper.wp execOp
  rw [ho]
  simp only [resolve, hs.ev hf, hm, Deferred.ofValue, Sem.run_bind, Sem.run_pure, Result.andThen_ok, invoke, Array.empty_append, Array.append_empty, hcl, Oper.upon_value, hd]
  exact h _ (hs.put hok v)
theorem op_blt {b : Builtin} (hs : St n w0 fs bs a w) (m : Option Nat) {xs : Array Operand} {ts : Array TypeId} {vs : List Value} {v : Value} {d : Nat} (ho : o.op = .call ⟨.builtin b, xs, ts⟩) (hd : o.dst = some d)
    (hx : evs fs xs.toList = some vs) (hcl : ∀ c w, (builtin b ts o.type c vs.toArray).run P w = .ok (.value v) w) (hok : okf m fs d n = true)
    (h : ∀ a', St n w0 (putf m fs d v) bs a' w → K a' w) : o.wp P a w K Q := by
  have hm : xs.map a.eval = vs.toArray := by
    have := hs.evs hx
    rw [← this, ← Array.toList_map]
  unfold Oper.wp execOp
  rw [ho]
  simp only [resolve, hm, Sem.run_bind, Sem.run_pure, Result.andThen_ok, invoke, hcl, Oper.upon_value, hd]
  exact h _ (hs.put hok v)

/-- memory -/
def ldv (ag : Bool) (m : Nat) (cs : List Value) (i : Nat) : Option Value :=
  bif ag then (bif Nat.ble (i + m) cs.length then some (.agg ((cs.drop i).take m).toArray) else none) else cs[i]?
theorem run_ldv {t : TypeId} {g i : Nat} {T : TypeId} {cs : List Value} {ag : Bool} {m : Nat} {v : Value} (hb : w.heap[g]? = some (.cells cs.toArray T (0, 0))) (hu : ∀ w, (isAgg t).run P w = .ok ag w) (hz : ∀ w, (sizeOf t).run P w = .ok m w)
    (hl : ldv ag m cs i = some v) : (loadVar t ⟨g, i, none⟩).run P w = .ok v w := by
  have hc : ∀ j, w.cell? ⟨g, j, none⟩ = cs[j]? := fun j => by rw [cell_of_row w g j _ T _ hb]; simp
  unfold loadVar
  rw [Sem.run_bind, hu]
  simp only [Result.andThen_ok]
  cases ag with
  | false =>
    simp only [ldv, cond_false] at hl
    simp only [Bool.false_eq_true, if_false]
    simp [hc, hl]
  | true =>
    simp only [ldv, cond_true] at hl
    have hle : i + m ≤ cs.length := by
      cases hb : Nat.ble (i + m) cs.length with
      | true => exact Nat.le_of_ble_eq_true hb
      | false => rw [hb] at hl; simp at hl
    rw [show Nat.ble (i + m) cs.length = true from Nat.ble_eq_true_of_le hle] at hl
    simp only [cond_true, Option.some.injEq] at hl
    subst hl
    simp only [if_true, Sem.run_bind, hz, Result.andThen_ok]
    have hlen : ((cs.drop i).take m).length = m := by simp; omega
    have := run_loadCells_list (P := P) w ⟨g, i, none⟩ ((cs.drop i).take m) (fun j v hv => by
      rw [Addr.add_mid, hc]
      rw [List.getElem?_take] at hv
      split at hv
      · rw [List.getElem?_drop] at hv; exact hv
      · cases hv)
    rw [hlen] at this
    simp [this]
theorem op_load (hs : St n w0 fs bs a w) (m : Option Nat) (k : Nat) {t : TypeId} {x : Operand} {g i : Nat} {T : TypeId} {cs : List Value} {ag : Bool} {z : Nat} {v : Value} {d : Nat} (ho : o.op = .load t x) (hd : o.dst = some d)
    (hx : ev fs x = some (.pointer (some ⟨g, i, none⟩))) (hb : bs[k]? = some (true, g, T, cs)) (hu : ∀ w, (isAgg t).run P w = .ok ag w) (hz : ∀ w, (sizeOf t).run P w = .ok z w) (hl : ldv ag z cs i = some v) (hok : okf m fs d n = true)
    (h : ∀ a', St n w0 (putf m fs d v) bs a' w → K a' w) : o.wp P a w K Q :=
  op_val hs m hd hok (by
    unfold execOp
    rw [ho]
    simp only [hs.ev hx, Instr.loadAt, Instr.sureAddr, Sem.run_bind, Sem.run_pure, Result.andThen_ok, run_ldv (hs.blk hb) hu hz hl]) h
/-- a load of a cell that was there ahead of the call -/
theorem op_loadOld (hs : St n w0 fs bs a w) (m : Option Nat) {t : TypeId} {x : Operand} {p : Addr} {v : Value} {d : Nat} (ho : o.op = .load t x) (hd : o.dst = some d)
    (hx : ev fs x = some (.pointer (some p))) (hu : ∀ w, (isAgg t).run P w = .ok false w) (hX : w0.X = noX) (hc : w0.cell? p = some v) (hok : okf m fs d n = true)
    (h : ∀ a', St n w0 (putf m fs d v) bs a' w → K a' w) : o.wp P a w K Q :=
  op_val hs m hd hok (by
    unfold execOp
    rw [ho]
    have hc' : w.cell? p = some v := by rw [hs.below.cell (block_lt_of_cell hc) (by rw [hX]; exact id)]; exact hc
    simp [hs.ev hx, Instr.loadAt, Instr.sureAddr, loadVar, Sem.run_bind, hu, Result.andThen, hc']) h
theorem heap_alloc_at (w : World) (ob : Obj) : (w.alloc ob).heap[w.heap.size]? = some ob := heap_alloc_new w ob
theorem op_alloc (hs : St n w0 fs bs a w) (m mb : Option Nat) {t : TypeId} {z : Value} {cs : List Value} {d : Nat} (ho : o.op = .alloc t) (hd : o.dst = some d) (hz : ∀ w, (zeroValue t).run P w = .ok z w) (hc : z.cells = cs.toArray)
    (hokb : okb mb bs = true) (hok : okf m fs d n = true)
    (h : ∀ g a' w', St n w0 (putf m fs d (.pointer (some ⟨g, 0, none⟩))) (putb mb bs (true, g, t, cs)) a' w' → K a' w') : o.wp P a w K Q := by
  unfold Oper.wp execOp
  rw [ho]
  simp only [Instr.alloc, Sem.run_bind, hz, Result.andThen_ok, newVar, newRow, run_newObj_alloc, Sem.run_pure, Oper.upon_value, hd, hc]
  exact h _ _ _ ((hs.add hokb ((Below.refl _ _).alloc (Nat.le_refl _) _) (Nat.le_refl _) (heap_alloc_at w _)).put hok _)
theorem op_box (hs : St n w0 fs bs a w) (m mb : Option Nat) {t : TypeId} {x : Operand} {v : Value} {cs : List Value} {d : Nat} (ho : o.op = .box t x) (hd : o.dst = some d) (hx : ev fs x = some v) (hc : v.cells = cs.toArray)
    (hokb : okb mb bs = true) (hok : okf m fs d n = true)
    (h : ∀ g a' w', St n w0 (putf m fs d (.pointer (some ⟨g, 0, none⟩))) (putb mb bs (true, g, t, cs)) a' w' → K a' w') : o.wp P a w K Q := by
  unfold Oper.wp execOp
  rw [ho]
  simp only [hs.ev hx, Instr.box, Sem.run_bind, Result.andThen_ok, newVar, newRow, run_newObj_alloc, Sem.run_pure, Oper.upon_value, hd, hc]
  exact h _ _ _ ((hs.add hokb ((Below.refl _ _).alloc (Nat.le_refl _) _) (Nat.le_refl _) (heap_alloc_at w _)).put hok _)
theorem op_store (hs : St n w0 fs bs a w) (k : Nat) {t : TypeId} {x y : Operand} {g i z : Nat} {T : TypeId} {cs : List Value} {v : Value} {vs : List Value} (ho : o.op = .store t x y) (hd : o.dst = none)
    (hx : ev fs x = some (.pointer (some ⟨g, i, none⟩))) (hy : ev fs y = some v) (hb : bs[k]? = some (true, g, T, cs)) (hz : ∀ w, (sizeOf t).run P w = .ok z w) (hv : v.cells = vs.toArray) (hvz : vs.length = z) (h1 : vs.all (·.oneCell') = true)
    (hle : Nat.ble (i + z) cs.length = true) {cs' : List Value} (hw : wr cs i vs = cs') (h : ∀ w', St n w0 fs (bs.set k (true, g, T, cs')) a w' → K a w') : o.wp P a w K Q := by
  subst hw
  have hrun : (Instr.storeAt t (.pointer (some ⟨g, i, none⟩)) v).run P w = .ok () (w.setCells g i vs) := by
    have hc : ∀ j, w.cell? ⟨g, j, none⟩ = cs[j]? := fun j => by rw [cell_of_row w g j _ T _ (hs.blk hb)]; simp
    have := run_storeCells_cells (P := P) g i vs 0 w (fun j hj => by have := Nat.le_of_ble_eq_true hle; rw [Nat.add_zero, hc]; simp; omega) (fun j hj => frozen_of_row w g _ _ T (hs.blk hb)) (fun v hv => (List.all_eq_true.1 h1) v hv)
    simp only [Nat.add_zero] at this
    simp only [Instr.storeAt, Instr.sureAddr, Sem.run_bind, Sem.run_pure, Result.andThen_ok, storeVar, hz, hv]
    simp [hvz, this]
  unfold Oper.wp execOp
  rw [ho]
  simp only [hs.ev hx, hs.ev hy, Sem.run_bind, hrun, Result.andThen_ok, Sem.run_pure, Oper.upon_skip, hd]
  exact h _ (hs.store hb i vs)
end
end Go.Proofs.Ytbjnlcblaonccaa
