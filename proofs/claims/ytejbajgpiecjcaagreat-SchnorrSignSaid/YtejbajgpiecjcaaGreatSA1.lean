/- Several texts in one, what this law needs of them: St, Reg, Go, Sq, Int, Sl0, W0, GoW, Sl, EqA, WAdd, WSub, WCmp, WFrom, WProdP, Mul64, WProd, WProdW, WMul, WEq, ScalP, RefP, ModP, DigP, Ref06P, InvP, WLen, Prime, PowP, Dig3P, ShP, FieldP. -/
import Derived.Test.YtejbajgpiecjcaaGreatRows
import Derived.WalkKit
import Derived.Below
import Derived.Orders
import Derived.Deep.MidRow
import Derived.KernelRfl
import Derived.Lib.Hide
import Derived.Laws.Externs
import Derived.Laws.Rows
import Derived.Laws.AppendOwn
import Derived.Deep.AppendLies
import Derived.Laws.MakeOwn
import Derived.Great.BuildSlice
import Derived.Outline
import Derived.OwnWalk
import Derived.StillTailTactics
import Derived.Deep.RegionWith
import Derived.ChangeKeysEq
import Derived.Shelf.Spec.BitsCarry
import Derived.Lib.Mul64
import Derived.Laws.Bits64b
import Derived.Deep.RegionHeld3
import Derived.Deep.DeepCutAuto
import Derived.Laws.Cover3
import Derived.Laws.StructEq
import Derived.Test.YtejbajgpiecjcaaGreatLen64

/- The state of a walk: the known slots of a frame, the blocks that the call made; a law for each operation; a law for a region that draws its order, which looks at each operation once. -/
namespace Go.Proofs.YtejbajgpiecjcaaGreat
open Go.RowKit
abbrev Sl := Nat × Bool × Value
abbrev Bl := Bool × Nat × TypeId × List Value
def lk : List Sl → Nat → Option Value
  | [], _ => none
  | (d, b, v) :: l, t => bif Nat.beq d t then (bif b then some v else lk l t) else lk l t
def ev (fs : List Sl) : Operand → Option Value
  | .tmp t => lk fs t
  | .const v => some v
  | .global g => some (.pointer (some ⟨g, 0, none⟩))
  | .func f => some (.func (.func f) #[] #[])
def evs (fs : List Sl) : List Operand → Option (List Value)
  | [] => some []
  | x :: l => match ev fs x, evs fs l with
    | some v, some vs => some (v :: vs)
    | _, _ => none
def onAt : List Sl → Nat → Value → List Sl
  | [], _, _ => []
  | s :: l, 0, v => (s.1, true, v) :: l
  | s :: l, i + 1, v => s :: onAt l i v
def nos (d : Nat) : List Sl → Nat → Bool
  | [], _ => false
  | s :: _, 0 => Nat.beq s.1 d
  | s :: l, i + 1 => !Nat.beq s.1 d && nos d l i
def putf (m : Option Nat) (fs : List Sl) (d : Nat) (v : Value) : List Sl :=
  match m with
  | none => (d, true, v) :: fs
  | some i => onAt fs i v
def okf (m : Option Nat) (fs : List Sl) (d n : Nat) : Bool :=
  Nat.blt d n && match m with
  | none => true
  | some i => nos d fs i
def putb (m : Option Nat) (bs : List Bl) (e : Bl) : List Bl :=
  match m with
  | none => bs ++ [e]
  | some k => bs.set k e
def okb (m : Option Nat) (bs : List Bl) : Bool :=
  match m with
  | none => true
  | some k => match bs[k]? with
    | some e => !e.1
    | none => false
theorem beqN {a b : Nat} : Nat.beq a b = true ↔ a = b := ⟨Nat.eq_of_beq_eq_true, fun h => h ▸ Nat.beq_refl a⟩
theorem lk_cons_ne {s : Sl} {l : List Sl} {t : Nat} (h : s.1 ≠ t) : lk (s :: l) t = lk l t := by
  have : Nat.beq s.1 t = false := by
    cases hb : Nat.beq s.1 t
    · rfl
    · exact absurd (beqN.1 hb) h
  obtain ⟨d, b, v⟩ := s
  simp only [lk, this, cond_false]
theorem lk_cons_eq {s : Sl} {l : List Sl} {t : Nat} (h : s.1 = t) : lk (s :: l) t = bif s.2.1 then some s.2.2 else lk l t := by
  obtain ⟨d, b, v⟩ := s
  simp only [lk, beqN.2 h, cond_true]
theorem lk_on (d : Nat) (v : Value) : ∀ (fs : List Sl) (i : Nat), nos d fs i = true → ∀ t u, lk (onAt fs i v) t = some u → (t = d ∧ u = v) ∨ (t ≠ d ∧ lk fs t = some u)
  | [], _, h, _, _, _ => by simp [nos] at h
  | s :: l, 0, h, t, u, e => by
    have hs : s.1 = d := beqN.1 (by simpa [nos] using h)
    by_cases ht : t = d
    · rw [onAt, lk_cons_eq (by simp [hs, ht])] at e
      exact .inl ⟨ht, by simpa using e.symm⟩
    · rw [onAt, lk_cons_ne (by simp [hs]; exact fun h => ht h.symm)] at e
      exact .inr ⟨ht, by rw [lk_cons_ne (by rw [hs]; exact fun h => ht h.symm)]; exact e⟩
  | s :: l, i + 1, h, t, u, e => by
    simp only [nos, Bool.and_eq_true, Bool.not_eq_true'] at h
    have hs : s.1 ≠ d := fun hh => by rw [beqN.2 hh] at h; simp at h
    by_cases hst : s.1 = t
    · rw [onAt, lk_cons_eq hst] at e
      have htd : t ≠ d := fun hh => hs (hst.trans hh)
      refine .inr ⟨htd, ?_⟩
      rw [lk_cons_eq hst]
      cases hb : s.2.1
      · rw [hb] at e
        rcases lk_on d v l i h.2 t u (by simpa using e) with ⟨h1, _⟩ | ⟨_, h2⟩
        · exact absurd h1 htd
        · simpa using h2
      · rw [hb] at e; simpa using e
    · rw [onAt, lk_cons_ne hst] at e
      rw [lk_cons_ne hst]
      exact lk_on d v l i h.2 t u e
theorem lk_put {m : Option Nat} {fs : List Sl} {d n : Nat} (h : okf m fs d n = true) (v : Value) (t : Nat) (u : Value) (e : lk (putf m fs d v) t = some u) : (t = d ∧ u = v) ∨ (t ≠ d ∧ lk fs t = some u) := by
  cases m with
  | none =>
    by_cases ht : d = t
    · rw [putf, lk_cons_eq ht] at e
      exact .inl ⟨ht.symm, by simpa using e.symm⟩
    · rw [putf, lk_cons_ne ht] at e
      exact .inr ⟨fun h => ht h.symm, e⟩
  | some i => exact lk_on d v fs i (by simp [okf] at h; exact h.2) t u e
inductive Fz
  | cel (v : Value) (n : Nat) (cs : List Value)
  | own (v : Value) (E : TypeId) (size n : Nat) (xs : List Value)
  | bys (vs : List Value) (ls : List (List UInt8))
  | bysO (G : Nat → Prop) (vs : List Value) (ls : List (List UInt8))
  | wrs (G : Nat → Prop) (vs : List Value) (ns : List Nat)
def Fz.owns : Fz → Nat → Prop
  | .own v _ _ _ _, g => v.ownBlock = some g
  | .bysO G _ _, g => G g
  | .wrs G _ _, g => G g
  | .cel _ _ _, _ => False
  | .bys _ _, _ => False
abbrev Bn (n : Nat) (X : Nat → Prop) (g : Nat) : Prop := n ≤ g ∨ X g
def noX : Nat → Prop := fun _ => False
structure BelowX (X : Nat → Prop) (B : Nat) (w w' : World) : Prop where
  os : w'.os = w.os
  tape : w'.tape = w.tape
  output : w'.output = w.output
  size : w.heap.size ≤ w'.heap.size
  block : ∀ k, k < B → ¬ X k → w'.heap[k]? = w.heap[k]?
theorem BelowX.of {X : Nat → Prop} {B : Nat} {w w' : World} (h : Below B w w') : BelowX X B w w' := ⟨h.os, h.tape, h.output, h.size, fun k hk _ => h.block k hk⟩
theorem BelowX.refl {X : Nat → Prop} (B : Nat) (w : World) : BelowX X B w w := .of (Below.refl B w)
theorem BelowX.trans {X : Nat → Prop} {B : Nat} {a b c : World} (h : BelowX X B a b) (k : BelowX X B b c) : BelowX X B a c :=
  ⟨k.os.trans h.os, k.tape.trans h.tape, k.output.trans h.output, Nat.le_trans h.size k.size, fun i hi hx => (k.block i hi hx).trans (h.block i hi hx)⟩
theorem BelowX.go {X : Nat → Prop} {B : Nat} {a b c : World} (h : BelowX X B a b) (k : Below B b c) : BelowX X B a c := h.trans (.of k)
theorem BelowX.drew {X : Nat → Prop} {B : Nat} {a w : World} (h : BelowX X B a w) : BelowX X B a w.drew := ⟨h.os, h.tape, h.output, h.size, h.block⟩
theorem BelowX.none {B : Nat} {w w' : World} (h : BelowX noX B w w') : Below B w w' := ⟨h.os, h.tape, h.output, h.size, fun k hk => h.block k hk id⟩
theorem BelowX.cell {X : Nat → Prop} {B : Nat} {w w' : World} (h : BelowX X B w w') {p : Addr} (hp : p.block < B) (hx : ¬ X p.block) : w'.cell? p = w.cell? p := World.cell?_of_block (w := w) (h.block p.block hp hx)
theorem BelowX.grown {X : Nat → Prop} {B : Nat} {a w w' : World} {row : Option Nat} (h : BelowX X B a w) (hg : w.grownBy w' row) (hB : B ≤ w.heap.size) (hr : ∀ k, row = some k → Bn B X k) : BelowX X B a w' :=
  h.trans ⟨hg.os, hg.tape, hg.output, hg.size, fun k hk hx => hg.block k (by omega) (fun e => by rcases hr k e.symm with h | h; omega; exact hx h)⟩
def CelV (w : World) (Z : Nat → Prop) (v : Value) (n : Nat) (cs : List Value) : Prop :=
  ∃ a c, v = .slice a n c ∧ n ≤ c ∧ c ≤ maxLen ∧ (a = none → c = 0) ∧ ∀ (j : Nat) (u : Value), cs[j]? = some u → ∃ g off, a = some ⟨g, off, none⟩ ∧ Z g ∧ w.cell? ⟨g, off + j, none⟩ = some u
def bcs (l : List UInt8) : List Value := l.map fun b => .int .u8 (b.toNat : Int)
def ByV (w : World) (Z : Nat → Prop) (v : Value) (l : List UInt8) : Prop := CelV w Z v l.length (bcs l)
def BysV (w : World) (Z : Nat → Prop) (vs : List Value) (ls : List (List UInt8)) : Prop := vs.length = ls.length ∧ ∀ (i : Nat) (v : Value) (l : List UInt8), vs[i]? = some v → ls[i]? = some l → ByV w Z v l
def WrV (w : World) (Z : Nat → Prop) (v : Value) (n : Nat) : Prop :=
  ∃ a c, v = .slice a n c ∧ n ≤ c ∧ c ≤ maxLen ∧ (a = none → c = 0) ∧ ∀ (j : Nat), j < n → ∃ g off u, a = some ⟨g, off, none⟩ ∧ Z g ∧ w.cell? ⟨g, off + j, none⟩ = some u
def WrsV (w : World) (Z : Nat → Prop) (vs : List Value) (ns : List Nat) : Prop := vs.length = ns.length ∧ ∀ (i : Nat) (v : Value) (n : Nat), vs[i]? = some v → ns[i]? = some n → WrV w Z v n
def OwnG (w : World) (Z B G : Nat → Prop) : Prop := ∀ g, G g → B g ∧ Z g ∧ ∃ cur T, w.heap[g]? = some (.cells cur T (0, 0))
def Fz.ok (w : World) (Z : Nat → Prop) (B : Nat → Prop) : Fz → Prop
  | .cel v n cs => CelV w Z v n cs
  | .own v E size n xs => w.ownsRow 0 E size v n xs ∧ ∀ g, v.ownBlock = some g → Z g ∧ B g
  | .bys vs ls => BysV w Z vs ls
  | .bysO G vs ls => BysV w G vs ls ∧ OwnG w Z B G
  | .wrs G vs ns => WrsV w G vs ns ∧ OwnG w Z B G
structure Bs where
  w : World
  F : List (Nat × Obj)
  S : List (Bool × Fz)
  Z : Nat → Prop
  X : Nat → Prop
instance : Coe World Bs := ⟨fun w => ⟨w, [], [], fun _ => True, noX⟩⟩
abbrev Bs.B (b : Bs) : Nat → Prop := Bn b.w.heap.size b.X
abbrev Bs.heap (b : Bs) : Array Obj := b.w.heap
abbrev Bs.cell? (b : Bs) (p : Addr) : Option Value := b.w.cell? p
def Zs (w0 : Bs) (bs : List Bl) (i : Nat) (g : Nat) : Prop :=
  (w0.Z g ∨ w0.B g) ∧ (∀ (j : Nat) (b : Bl), bs[j]? = some b → b.1 = true → b.2.1 ≠ g) ∧ ∀ (j : Nat) (e : Bool × Fz), j ≠ i → w0.S[j]? = some e → e.1 = true → ¬ e.2.owns g
theorem CelV.mono {w w' : World} {Z Z' : Nat → Prop} {v : Value} {n : Nat} {cs : List Value} (h : CelV w Z v n cs) (hz : ∀ g, Z g → g < w.heap.size → Z' g ∧ w'.heap[g]? = w.heap[g]?) : CelV w' Z' v n cs := by
  obtain ⟨a, c, h1, h2, h3, h4, h5⟩ := h
  refine ⟨a, c, h1, h2, h3, h4, fun j u hu => ?_⟩
  obtain ⟨g, off, e, hg, hc⟩ := h5 j u hu
  have hlt : g < w.heap.size := World.block_lt_of_cell? w _ hc
  exact ⟨g, off, e, (hz g hg hlt).1, (World.cell?_of_block (w := w) (hz g hg hlt).2).trans hc⟩
theorem WrV.mono {w w' : World} {Z Z' : Nat → Prop} {v : Value} {n : Nat} (h : WrV w Z v n) (hz : ∀ g, Z g → g < w.heap.size → Z' g ∧ w'.heap[g]? = w.heap[g]?) : WrV w' Z' v n := by
  obtain ⟨a, c, h1, h2, h3, h4, h5⟩ := h
  refine ⟨a, c, h1, h2, h3, h4, fun j hj => ?_⟩
  obtain ⟨g, off, u, e, hg, hc⟩ := h5 j hj
  have hlt : g < w.heap.size := World.block_lt_of_cell? w _ hc
  exact ⟨g, off, u, e, (hz g hg hlt).1, (World.cell?_of_block (w := w) (hz g hg hlt).2).trans hc⟩
theorem BysV.mono {w w' : World} {Z Z' : Nat → Prop} {vs : List Value} {ls : List (List UInt8)} (h : BysV w Z vs ls) (hz : ∀ g, Z g → g < w.heap.size → Z' g ∧ w'.heap[g]? = w.heap[g]?) : BysV w' Z' vs ls :=
  ⟨h.1, fun i v l hv hl => (h.2 i v l hv hl).mono hz⟩
theorem OwnG.lt {w : World} {Z B G : Nat → Prop} (h : OwnG w Z B G) {g : Nat} (hg : G g) : g < w.heap.size := by
  obtain ⟨_, _, cur, T, h1⟩ := h g hg
  exact (Array.getElem?_eq_some_iff.1 h1).1
theorem OwnG.mono {w w' : World} {Z Z' B B' G : Nat → Prop} (hb : ∀ g, G g → B g → B' g) (h : OwnG w Z B G) (hz : ∀ g, Z g → g < w.heap.size → Z' g ∧ w'.heap[g]? = w.heap[g]?) : OwnG w' Z' B' G := by
  intro g hg
  have hlt := h.lt hg
  obtain ⟨h1, h2, cur, T, h3⟩ := h g hg
  exact ⟨hb g hg h1, (hz g h2 hlt).1, cur, T, (hz g h2 hlt).2.trans h3⟩
theorem Fz.ok_mono {w w' : World} {Z Z' : Nat → Prop} {B B' : Nat → Prop} {e : Fz} (hb : ∀ g, e.owns g → B g → B' g) (hz : ∀ g, Z g → g < w.heap.size → Z' g ∧ w'.heap[g]? = w.heap[g]?) (h : e.ok w Z B) : e.ok w' Z' B' := by
  cases e with
  | cel _ _ _ => exact CelV.mono h hz
  | bys _ _ => exact BysV.mono h hz
  | bysO G _ _ => exact ⟨h.1.mono fun g hg hlt => ⟨hg, (hz g (h.2 g hg).2.1 hlt).2⟩, OwnG.mono hb h.2 hz⟩
  | wrs G _ _ => exact ⟨⟨h.1.1, fun i v n hv hn => (h.1.2 i v n hv hn).mono fun g hg hlt => ⟨hg, (hz g (h.2 g hg).2.1 hlt).2⟩⟩, OwnG.mono hb h.2 hz⟩
  | own v E size n xs =>
    obtain ⟨⟨h1, h2⟩, h3⟩ := h
    rcases h2 with ⟨rfl, h2⟩ | ⟨g, cap, cur, rfl, k1, k2, k3⟩
    · exact ⟨⟨h1, .inl ⟨rfl, h2⟩⟩, fun g hg => by cases hg⟩
    · have hg := h3 g rfl
      have hlt : g < w.heap.size := (Array.getElem?_eq_some_iff.1 k2).1
      have h4 := hz g hg.1 hlt
      exact ⟨⟨h1, .inr ⟨g, cap, cur, rfl, k1, h4.2.trans k2, k3⟩⟩, fun g' hg' => by
        have : g = g' := by simpa [Value.ownBlock] using hg'
        exact this ▸ ⟨h4.1, hb g rfl hg.2⟩⟩
theorem Fz.ok_lt {w : World} {Z B : Nat → Prop} {g : Nat} : ∀ {e : Fz}, e.ok w Z B → e.owns g → g < w.heap.size ∧ Z g ∧ B g
  | .cel _ _ _, _, ho => ho.elim
  | .bys _ _, _, ho => ho.elim
  | .bysO G _ _, h, ho => ⟨h.2.lt ho, (h.2 g ho).2.1, (h.2 g ho).1⟩
  | .wrs G _ _, h, ho => ⟨h.2.lt ho, (h.2 g ho).2.1, (h.2 g ho).1⟩
  | .own v E size n xs, h, ho => by
    have h3 := h.2 g ho
    refine ⟨?_, h3.1, h3.2⟩
    rcases h.1.2 with ⟨rfl, _⟩ | ⟨g', cap, cur, rfl, _, k2, _⟩
    · cases ho
    · have : g' = g := by simpa [Fz.owns, Value.ownBlock] using ho
      exact this ▸ (Array.getElem?_eq_some_iff.1 k2).1
structure St (n : Nat) (w0 : Bs) (fs : List Sl) (bs : List Bl) (a : Act) (w : World) : Prop where
  size : a.tmps.size = n
  defers : a.defers = []
  slots : ∀ t v, lk fs t = some v → a.tmps[t]? = some v
  blks : ∀ (i : Nat) (e : Bl), bs[i]? = some e → e.1 = true → w.heap[e.2.1]? = some (.cells e.2.2.2.toArray e.2.2.1 (0, 0)) ∧ w0.B e.2.1
  apart : ∀ (i j : Nat) (e e' : Bl), i ≠ j → bs[i]? = some e → bs[j]? = some e' → e.1 = true → e'.1 = true → e.2.1 ≠ e'.2.1
  below : BelowX w0.X w0.w.heap.size w0.w w
  frz : ∀ p ∈ w0.F, w.heap[p.1]? = some p.2 ∧ ∀ (i : Nat) (e : Bl), bs[i]? = some e → e.1 = true → e.2.1 ≠ p.1
  fz : ∀ (i : Nat) (e : Bool × Fz), w0.S[i]? = some e → e.1 = true → e.2.ok w (Zs w0 bs i) w0.B
section
variable {P : Program} {n : Nat} {w0 : Bs} {fs : List Sl} {bs : List Bl} {a : Act} {w : World} {Q : Exit → Act → World → Prop} {K : Act → World → Prop} {o : Oper}
theorem St.ev (hs : St n w0 fs bs a w) {x : Operand} {v : Value} (h : ev fs x = some v) : a.eval x = v := by
  cases x with
  | tmp t => simp [Act.eval, hs.slots t v h]
  | const c => simpa [Go.Proofs.YtejbajgpiecjcaaGreat.ev, Act.eval] using h
  | global g => simpa [Go.Proofs.YtejbajgpiecjcaaGreat.ev, Act.eval] using h
  | func f => simpa [Go.Proofs.YtejbajgpiecjcaaGreat.ev, Act.eval] using h
theorem St.evs (hs : St n w0 fs bs a w) : ∀ {l : List Operand} {vs : List Value}, evs fs l = some vs → l.map a.eval = vs
  | [], vs, h => by simpa [Go.Proofs.YtejbajgpiecjcaaGreat.evs] using h
  | x :: l, vs, h => by
    unfold Go.Proofs.YtejbajgpiecjcaaGreat.evs at h
    split at h
    · rename_i v vs' h1 h2
      obtain rfl : v :: vs' = vs := by simpa using h
      rw [List.map_cons, hs.ev h1, hs.evs h2]
    · cases h
theorem St.blk (hs : St n w0 fs bs a w) {k g : Nat} {T : TypeId} {cs : List Value} (h : bs[k]? = some (true, g, T, cs)) : w.heap[g]? = some (.cells cs.toArray T (0, 0)) := (hs.blks k _ h rfl).1
theorem St.drew (hs : St n w0 fs bs a w) : St n w0 fs bs a w.drew := ⟨hs.size, hs.defers, hs.slots, hs.blks, hs.apart, hs.below.drew, hs.frz, fun i e h h1 => Fz.ok_mono (fun _ _ h => h) (fun g hg _ => ⟨hg, rfl⟩) (hs.fz i e h h1)⟩
theorem St.skip (hs : St n w0 fs bs a w) {d : Nat} {v : Value} : St n w0 ((d, false, v) :: fs) bs a w :=
  ⟨hs.size, hs.defers, fun t u h => hs.slots t u (by
    by_cases e : d = t
    · rw [lk_cons_eq e] at h; simpa using h
    · rw [lk_cons_ne e] at h; exact h), hs.blks, hs.apart, hs.below, hs.frz, hs.fz⟩
theorem St.pad (hs : St n w0 fs bs a w) {g : Nat} {T : TypeId} {cs : List Value} : St n w0 fs (bs ++ [(false, g, T, cs)]) a w := by
  have key : ∀ (i : Nat) (e : Bl), (bs ++ [(false, g, T, cs)])[i]? = some e → e.1 = true → bs[i]? = some e := by
    intro i e h h1
    rw [List.getElem?_append] at h
    split at h
    · exact h
    · obtain ⟨hlt, rfl⟩ := List.getElem?_eq_some_iff.1 h
      simp at h1
  exact ⟨hs.size, hs.defers, hs.slots, fun i e h h1 => hs.blks i e (key i e h h1) h1, fun i j e e' hij h h' h1 h1' => hs.apart i j e e' hij (key i e h h1) (key j e' h' h1') h1 h1', hs.below, fun p hp => ⟨(hs.frz p hp).1, fun i e h h1 => (hs.frz p hp).2 i e (key i e h h1) h1⟩, fun i e h h1 => Fz.ok_mono (fun _ _ h => h) (fun g hg _ => ⟨⟨hg.1, fun j b hb hb1 => hg.2.1 j b (key j b hb hb1) hb1, hg.2.2⟩, rfl⟩) (hs.fz i e h h1)⟩
theorem St.put (hs : St n w0 fs bs a w) {m : Option Nat} {d : Nat} (h : okf m fs d n = true) (v : Value) : St n w0 (putf m fs d v) bs (a.put (some d) v) w :=
  ⟨by simp [Act.put, hs.size], hs.defers, fun t u e => by
    rcases lk_put h v t u e with ⟨rfl, rfl⟩ | ⟨hne, h2⟩
    · have hlt : t < a.tmps.size := by rw [hs.size]; simp [okf] at h; exact h.1
      simp [Act.put, Array.getElem?_setIfInBounds, hlt]
    · show (a.tmps.setIfInBounds d v)[t]? = _
      rw [Array.getElem?_setIfInBounds_ne (fun e => hne e.symm)]
      exact hs.slots t u h2, hs.blks, hs.apart, hs.below, hs.frz, hs.fz⟩
theorem St.lt (hs : St n w0 fs bs a w) {i : Nat} {e : Bl} (h : bs[i]? = some e) (h1 : e.1 = true) : e.2.1 < w.heap.size := by
  have := (hs.blks i e h h1).1
  exact (Array.getElem?_eq_some_iff.1 this).1
theorem St.bel (hs : St n w0 fs bs a w) (hX : w0.X = noX) : Below w0.w.heap.size w0.w w := by
  have := hs.below
  rw [hX] at this
  exact this.none
theorem St.own0 (hs : St n w0 fs bs a w) (hX : w0.X = noX) {i : Nat} {e : Bl} (h : bs[i]? = some e) (h1 : e.1 = true) : w0.w.heap.size ≤ e.2.1 := by
  rcases (hs.blks i e h h1).2 with h2 | h2
  · exact h2
  · rw [hX] at h2; exact h2.elim
theorem St.flt (hs : St n w0 fs bs a w) {p : Nat × Obj} (hp : p ∈ w0.F) : p.1 < w.heap.size := (Array.getElem?_eq_some_iff.1 (hs.frz p hp).1).1
theorem St.grow (hs : St n w0 fs bs a w) {w' : World} (hb : Below w.heap.size w w') : St n w0 fs bs a w' :=
  ⟨hs.size, hs.defers, hs.slots, fun i e h h1 => ⟨(hb.block _ (hs.lt h h1)).trans (hs.blks i e h h1).1, (hs.blks i e h h1).2⟩, hs.apart, hs.below.go (hb.mono hs.below.size), fun p hp => ⟨(hb.block _ (hs.flt hp)).trans (hs.frz p hp).1, (hs.frz p hp).2⟩, fun i e h h1 => Fz.ok_mono (fun _ _ h => h) (fun g hg hlt => ⟨hg, hb.block g hlt⟩) (hs.fz i e h h1)⟩
theorem St.add (hs : St n w0 fs bs a w) {m : Option Nat} (hm : okb m bs = true) {w' : World} (hb : Below w.heap.size w w') {g : Nat} (hg : w.heap.size ≤ g) {T : TypeId} {cs : List Value} (hc : w'.heap[g]? = some (.cells cs.toArray T (0, 0))) :
    St n w0 fs (putb m bs (true, g, T, cs)) a w' := by
  have h0 := hs.grow hb
  have key : ∃ k : Nat, ∀ (i : Nat) (e : Bl), (putb m bs (true, g, T, cs))[i]? = some e → (i = k ∧ e = (true, g, T, cs)) ∨ (i ≠ k ∧ bs[i]? = some e) := by
    cases m with
    | none =>
      refine ⟨bs.length, fun i e h => ?_⟩
      rw [putb, List.getElem?_append] at h
      split at h
      · rename_i hlt; exact .inr ⟨by omega, h⟩
      · rename_i hge
        obtain ⟨hlt, rfl⟩ := List.getElem?_eq_some_iff.1 h
        simp at hlt
        exact .inl ⟨by omega, by simp⟩
    | some k =>
      refine ⟨k, fun i e h => ?_⟩
      rw [putb, List.getElem?_set] at h
      split at h
      · rename_i hik
        split at h
        · exact .inl ⟨hik.symm, by simpa using h.symm⟩
        · cases h
      · rename_i hik; exact .inr ⟨fun e => hik e.symm, h⟩
  obtain ⟨k, key⟩ := key
  refine ⟨h0.size, h0.defers, h0.slots, fun i e h h1 => ?_, fun i j e e' hij h h' h1 h1' => ?_, h0.below, fun p hp => ⟨(h0.frz p hp).1, fun i e h h1 => ?_⟩, fun i e h h1 => ?_⟩
  · rcases key i e h with ⟨_, rfl⟩ | ⟨_, h2⟩
    · exact ⟨hc, .inl (Nat.le_trans hs.below.size hg)⟩
    · exact h0.blks i e h2 h1
  · rcases key i e h with ⟨hi, rfl⟩ | ⟨hi, h2⟩ <;> rcases key j e' h' with ⟨hj, rfl⟩ | ⟨hj, h2'⟩
    · exact absurd (hi.trans hj.symm) hij
    · have := hs.lt h2' h1'
      show g ≠ e'.2.1
      omega
    · have := hs.lt h2 h1
      show e.2.1 ≠ g
      omega
    · exact h0.apart i j e e' hij h2 h2' h1 h1'
  · rcases key i e h with ⟨_, rfl⟩ | ⟨_, h2⟩
    · have := hs.flt hp
      show g ≠ p.1
      omega
    · exact (h0.frz p hp).2 i e h2 h1
  · refine Fz.ok_mono (fun _ _ h => h) (fun x hx hlt => ⟨⟨hx.1, fun j b hb1 hb2 => ?_, hx.2.2⟩, hb.block x hlt⟩) (hs.fz i e h h1)
    rcases key j b hb1 with ⟨_, rfl⟩ | ⟨_, h2⟩
    · show g ≠ x
      omega
    · exact hx.2.1 j b h2 hb2
def wr (cs : List Value) (i : Nat) : List Value → List Value
  | [] => cs
  | v :: vs => wr (cs.set i v) (i + 1) vs
theorem heap_setCells_at (g : Nat) (T : TypeId) : ∀ (vs : List Value) (i : Nat) (w : World) (cs : List Value), w.heap[g]? = some (.cells cs.toArray T (0, 0)) → (w.setCells g i vs).heap[g]? = some (.cells (wr cs i vs).toArray T (0, 0))
  | [], _, _, _, h => h
  | v :: vs, i, w, cs, h => by
    refine heap_setCells_at g T vs (i + 1) _ _ ?_
    simp [World.setCell, Array.getElem?_modify, h]
theorem heap_setCells_far (g k : Nat) (hk : k ≠ g) : ∀ (vs : List Value) (i : Nat) (w : World), (w.setCells g i vs).heap[k]? = w.heap[k]?
  | [], _, _ => rfl
  | v :: vs, i, w => (heap_setCells_far g k hk vs (i + 1) _).trans (Below.heap_setCell _ _ _ _ hk)
theorem setCells_rest (g : Nat) : ∀ (vs : List Value) (i : Nat) (w : World), (w.setCells g i vs).os = w.os ∧ (w.setCells g i vs).tape = w.tape ∧ (w.setCells g i vs).output = w.output ∧ (w.setCells g i vs).heap.size = w.heap.size
  | [], _, _ => ⟨rfl, rfl, rfl, rfl⟩
  | v :: vs, i, w => by
    obtain ⟨h1, h2, h3, h4⟩ := setCells_rest g vs (i + 1) (w.setCell ⟨g, i, none⟩ v)
    exact ⟨h1, h2, h3, h4.trans (by simp [World.setCell])⟩
theorem St.store (hs : St n w0 fs bs a w) {k g : Nat} {T : TypeId} {cs : List Value} (h : bs[k]? = some (true, g, T, cs)) (i : Nat) (vs : List Value) : St n w0 fs (bs.set k (true, g, T, wr cs i vs)) a (w.setCells g i vs) := by
  obtain ⟨r1, r2, r3, r4⟩ := setCells_rest g vs i w
  have hg := (hs.blks k _ h rfl).2
  have hk : k < bs.length := (List.getElem?_eq_some_iff.1 h).1
  have key : ∀ j (e : Bl), (bs.set k (true, g, T, wr cs i vs))[j]? = some e → (j = k ∧ e = (true, g, T, wr cs i vs)) ∨ (j ≠ k ∧ bs[j]? = some e) := by
    intro j e h
    rw [List.getElem?_set] at h
    split at h
    · rename_i hik
      first
        | exact .inl ⟨hik.symm, by simpa using h.symm⟩
        | (split at h
           · exact .inl ⟨hik.symm, by simpa using h.symm⟩
           · cases h)
    · rename_i hik; exact .inr ⟨fun e => hik e.symm, h⟩
  refine ⟨hs.size, hs.defers, hs.slots, fun j e h' h1 => ?_, fun i' j e e' hij h' h'' h1 h1' => ?_, ?_, fun p hp => ⟨(heap_setCells_far g p.1 (fun e => (hs.frz p hp).2 k _ h rfl e.symm) vs i w).trans (hs.frz p hp).1, fun j e h' h1 => ?_⟩, fun j e h' h1 => ?_⟩
  · rcases key j e h' with ⟨_, rfl⟩ | ⟨hj, h2⟩
    · exact ⟨heap_setCells_at g T vs i w cs (hs.blk h), hg⟩
    · have hne : e.2.1 ≠ g := hs.apart j k e (true, g, T, cs) hj h2 h h1 rfl
      exact ⟨(heap_setCells_far g _ hne vs i w).trans (hs.blks j e h2 h1).1, (hs.blks j e h2 h1).2⟩
  · rcases key i' e h' with ⟨hi, rfl⟩ | ⟨hi, h2⟩ <;> rcases key j e' h'' with ⟨hj, rfl⟩ | ⟨hj, h2'⟩
    · exact absurd (hi.trans hj.symm) hij
    · exact hs.apart k j (true, g, T, cs) e' (fun e => hij (hi.trans e)) h h2' rfl h1'
    · exact hs.apart i' k e (true, g, T, cs) (fun e => hij (e.trans hj.symm)) h2 h h1 rfl
    · exact hs.apart i' j e e' hij h2 h2' h1 h1'
  · refine ⟨r1.trans hs.below.os, r2.trans hs.below.tape, r3.trans hs.below.output, by rw [r4]; exact hs.below.size, fun j hj hx => ?_⟩
    have hjg : j ≠ g := fun e => by
      rcases hg with hg | hg
      · have hg' : w0.w.heap.size ≤ g := hg
        omega
      · exact hx (e ▸ hg)
    exact (heap_setCells_far g j hjg vs i w).trans (hs.below.block j hj hx)
  · rcases key j e h' with ⟨_, rfl⟩ | ⟨_, h2⟩
    · exact (hs.frz p hp).2 k (true, g, T, cs) h rfl
    · exact (hs.frz p hp).2 j e h2 h1
  · refine Fz.ok_mono (fun _ _ h => h) (fun x hx hlt => ⟨⟨hx.1, fun j' b hb1 hb2 => ?_, hx.2.2⟩, heap_setCells_far g x (fun e => hx.2.1 k _ h rfl e.symm) vs i w⟩) (hs.fz j e h' h1)
    rcases key j' b hb1 with ⟨_, rfl⟩ | ⟨_, h2⟩
    · exact hx.2.1 k (true, g, T, cs) h rfl
    · exact hx.2.1 j' b h2 hb2
def idx : Nat → List Value → List Sl
  | _, [] => []
  | k, v :: l => (k, true, v) :: idx (k + 1) l
theorem lk_idx : ∀ (l : List Value) (k t : Nat) (v : Value), lk (idx k l) t = some v → k ≤ t ∧ l[t - k]? = some v
  | [], _, _, _, h => by simp [idx, lk] at h
  | u :: l, k, t, v, h => by
    by_cases e : k = t
    · rw [idx, lk_cons_eq e] at h
      subst e
      exact ⟨Nat.le_refl _, by simpa using h⟩
    · rw [idx, lk_cons_ne e] at h
      obtain ⟨h1, h2⟩ := lk_idx l (k + 1) t v h
      refine ⟨by omega, ?_⟩
      rw [show t - k = (t - (k + 1)) + 1 by omega]
      simpa using h2
theorem enter {f : FuncId} {fn : Func} {c : Code} {args : List Value} {w : World} {R : Ending → World → Prop} {n : Nat} (hf : P.funcs[f]? = some fn) (hb : fn.body = some c) (hn : fn.ntmps = n) (hle : args.length ≤ n)
    (h : ∀ a, St n w (idx 0 args) [] a w → c.wp P (bodyPost P fn R) a w) : Calls P f args.toArray w R := by
  refine calls_of_wp hf hb (h _ ⟨?_, rfl, ?_, ?_, ?_, BelowX.refl _ _, (fun p hp => nomatch hp), fun i e h => by simp at h⟩)
  · subst hn; simp; omega
  · intro t v h
    obtain ⟨_, h2⟩ := lk_idx args 0 t v h
    have hlt : t < args.length := (List.getElem?_eq_some_iff.1 h2).1
    rw [Array.getElem?_append_left (by simpa using hlt)]
    simpa using h2
  · intro i e h; simp at h
  · intro i j e e' _ h; simp at h
def Fz.ownless : Fz → Bool
  | .cel _ _ _ => true
  | .bys _ _ => true
  | _ => false
theorem Fz.ownless_no {e : Fz} (h : e.ownless = true) (g : Nat) : ¬ e.owns g := by
  cases e <;> simp [Fz.ownless, Fz.owns] at h ⊢
theorem enterS {f : FuncId} {fn : Func} {c : Code} {args : List Value} {w : World} {R : Ending → World → Prop} {n : Nat} {S : List (Bool × Fz)} {Z : Nat → Prop} (hf : P.funcs[f]? = some fn) (hb : fn.body = some c) (hn : fn.ntmps = n) (hle : args.length ≤ n)
    (hS : ∀ (i : Nat) (e : Bool × Fz), S[i]? = some e → e.1 = true → e.2.ok w Z (Bn w.heap.size noX)) (ho : (S.all fun e => e.2.ownless) = true)
    (h : ∀ a, St n ⟨w, [], S, Z, noX⟩ (idx 0 args) [] a w → c.wp P (bodyPost P fn R) a w) : Calls P f args.toArray w R := by
  refine calls_of_wp hf hb (h _ ⟨?_, rfl, ?_, ?_, ?_, BelowX.refl _ _, (fun p hp => nomatch hp), fun i e h h1 => ?_⟩)
  · subst hn; simp; omega
  · intro t v h
    obtain ⟨_, h2⟩ := lk_idx args 0 t v h
    have hlt : t < args.length := (List.getElem?_eq_some_iff.1 h2).1
    rw [Array.getElem?_append_left (by simpa using hlt)]
    simpa using h2
  · intro i e h; simp at h
  · intro i j e e' _ h; simp at h
  · refine Fz.ok_mono (fun _ _ h => h) (fun g hg _ => ⟨⟨.inl hg, fun j b hb => by simp at hb, fun j e' _ hj _ he => ?_⟩, rfl⟩) (hS i e h h1)
    exact Fz.ownless_no ((List.all_eq_true.1 ho) e' (List.mem_of_getElem? hj)) g he
theorem op_val (hs : St n w0 fs bs a w) {v : Value} (m : Option Nat) {d : Nat} (hd : o.dst = some d) (hok : okf m fs d n = true) (hr : (execOp a.eval o).run P w = .ok (.value v) w)
    (h : ∀ a', St n w0 (putf m fs d v) bs a' w → K a' w) : o.wp P a w K Q := by
  unfold Oper.wp
  rw [hr, Oper.upon_value, hd]
  exact h _ (hs.put hok v)
theorem op_move (hs : St n w0 fs bs a w) (m : Option Nat) {x : Operand} {v : Value} {d : Nat} (ho : o.op = .move x) (hd : o.dst = some d) (hx : ev fs x = some v) (hok : okf m fs d n = true)
    (h : ∀ a', St n w0 (putf m fs d v) bs a' w → K a' w) : o.wp P a w K Q :=
  op_val hs m hd hok (by unfold execOp; rw [ho]; simp only [hs.ev hx]; rfl) h
theorem op_assign (hs : St n w0 fs bs a w) (m : Option Nat) {x : Operand} {v : Value} {d : Nat} (ho : o.op = .assign x) (hd : o.dst = some d) (hx : ev fs x = some v) (hok : okf m fs d n = true)
    (h : ∀ a', St n w0 (putf m fs d v) bs a' w → K a' w) : o.wp P a w K Q :=
  op_val hs m hd hok (by unfold execOp; rw [ho]; simp only [hs.ev hx]; rfl) h
theorem op_extract (hs : St n w0 fs bs a w) (m : Option Nat) {x : Operand} {vs : Array Value} {i : Nat} {v : Value} {d : Nat} (ho : o.op = .extract x i) (hd : o.dst = some d) (hx : ev fs x = some (.tuple vs)) (hv : vs[i]? = some v) (hok : okf m fs d n = true)
    (h : ∀ a', St n w0 (putf m fs d v) bs a' w → K a' w) : o.wp P a w K Q :=
  op_val hs m hd hok (by unfold execOp; rw [ho]; simp only [hs.ev hx, Instr.extract, hv]; rfl) h
theorem op_bin (hs : St n w0 fs bs a w) (m : Option Nat) {b : BinOp} {T U : TypeId} {x y : Operand} {vx vy v : Value} {d : Nat} (ho : o.op = .binOp b T x y U) (hd : o.dst = some d) (hx : ev fs x = some vx) (hy : ev fs y = some vy)
    (hg : ∀ w, (eqGuard b T x y vx vy).run P w = .ok () w) (hr : ∀ w, (binOp b T vx vy).run P w = .ok v w) (hok : okf m fs d n = true)
    (h : ∀ a', St n w0 (putf m fs d v) bs a' w → K a' w) : o.wp P a w K Q :=
  op_val hs m hd hok (by unfold execOp; rw [ho]; simp [hs.ev hx, hs.ev hy, Sem.run_bind, hg, hr, Result.andThen]) h
theorem op_un (hs : St n w0 fs bs a w) (m : Option Nat) {b : UnOp} {T : TypeId} {x : Operand} {vx v : Value} {d : Nat} (ho : o.op = .unOp b T x) (hd : o.dst = some d) (hx : ev fs x = some vx)
    (hr : ∀ w, (Op.unary b vx).run P w = .ok v w) (hok : okf m fs d n = true)
    (h : ∀ a', St n w0 (putf m fs d v) bs a' w → K a' w) : o.wp P a w K Q :=
  op_val hs m hd hok (by unfold execOp; rw [ho]; simp [hs.ev hx, Sem.run_bind, hr, Result.andThen]) h
theorem op_convert (hs : St n w0 fs bs a w) (m : Option Nat) {T U : TypeId} {x : Operand} {vx v : Value} {d : Nat} (ho : o.op = .convert T U x) (hd : o.dst = some d) (hx : ev fs x = some vx)
    (hr : ∀ w, (convert T U vx).run P w = .ok v w) (hok : okf m fs d n = true)
    (h : ∀ a', St n w0 (putf m fs d v) bs a' w → K a' w) : o.wp P a w K Q :=
  op_val hs m hd hok (by unfold execOp; rw [ho]; simp [hs.ev hx, Sem.run_bind, hr, Result.andThen]) h
theorem op_field (hs : St n w0 fs bs a w) (m : Option Nat) {T : TypeId} {x : Operand} {i : Nat} {vx v : Value} {d : Nat} (ho : o.op = .field T x i) (hd : o.dst = some d) (hx : ev fs x = some vx)
    (hr : ∀ w, (Instr.field T vx i).run P w = .ok v w) (hok : okf m fs d n = true)
    (h : ∀ a', St n w0 (putf m fs d v) bs a' w → K a' w) : o.wp P a w K Q :=
  op_val hs m hd hok (by unfold execOp; rw [ho]; simp [hs.ev hx, Sem.run_bind, hr, Result.andThen]) h
theorem op_index (hs : St n w0 fs bs a w) (m : Option Nat) {T : TypeId} {x y : Operand} {vx vy v : Value} {d : Nat} (ho : o.op = .index T x y) (hd : o.dst = some d) (hx : ev fs x = some vx) (hy : ev fs y = some vy)
    (hr : ∀ w, (Instr.index T vx vy).run P w = .ok v w) (hok : okf m fs d n = true)
    (h : ∀ a', St n w0 (putf m fs d v) bs a' w → K a' w) : o.wp P a w K Q :=
  op_val hs m hd hok (by unfold execOp; rw [ho]; simp [hs.ev hx, hs.ev hy, Sem.run_bind, hr, Result.andThen]) h
theorem op_build (hs : St n w0 fs bs a w) (m : Option Nat) {T : TypeId} {ps : Array (Nat × Operand)} {qs : List (Nat × Value)} {v : Value} {d : Nat} (ho : o.op = .build T ps) (hd : o.dst = some d)
    (hx : evs fs (ps.toList.map (·.2)) = some (qs.map (·.2))) (hi : ps.toList.map (·.1) = qs.map (·.1))
    (hr : ∀ w, (Instr.build T qs.toArray).run P w = .ok v w) (hok : okf m fs d n = true)
    (h : ∀ a', St n w0 (putf m fs d v) bs a' w → K a' w) : o.wp P a w K Q := by
  have hq : ps.map (fun (p : Nat × Operand) => (p.1, a.eval p.2)) = qs.toArray := by
    have h1 := hs.evs hx
    apply Array.ext'
    simp only [Array.toList_map]
    rw [List.map_map] at h1
    apply List.ext_getElem?
    intro j
    have e1 := congrArg (·[j]?) h1
    have e2 := congrArg (·[j]?) hi
    simp only [List.getElem?_map] at e1 e2 ⊢
    cases hp : ps.toList[j]? with
    | none =>
      rw [hp] at e1
      cases hq : qs[j]? with
      | none => rfl
      | some q => rw [hq] at e1; simp at e1
    | some p =>
      rw [hp] at e1 e2
      cases hq : qs[j]? with
      | none => rw [hq] at e1; simp at e1
      | some q =>
        rw [hq] at e1 e2
        simp at e1 e2
        simp [e1, e2]
  refine op_val hs m hd hok ?_ h
  unfold execOp
  rw [ho]
  simp only [hq]
  rw [Sem.run_bind, hr]
  rfl
theorem op_call {F : FuncId} (hs : St n w0 fs bs a w) (m : Option Nat) {f : Operand} {xs : Array Operand} {ts : Array TypeId} {vs : List Value} {v : Value} {d : Nat} (ho : o.op = .call ⟨.value f, xs, ts⟩) (hd : o.dst = some d)
    (hf : ev fs f = some (.func (.func F) #[] #[])) (hx : evs fs xs.toList = some vs) (hcl : ∀ w, (callFunc F vs.toArray).run P w = .ok (.enter F vs.toArray) w)
    (hc : ∀ w, Calls P F vs.toArray w fun e w' => e = .returned v ∧ Below w.heap.size w w') (hok : okf m fs d n = true)
    (h : ∀ a' w', St n w0 (putf m fs d v) bs a' w' → K a' w') : o.wp P a w K Q := by
  have hm : xs.map a.eval = vs.toArray := by
    have := hs.evs hx
    rw [← this, ← Array.toList_map]
  unfold Oper.wp execOp
  rw [ho]
  simp only [resolve, hs.ev hf, hm, Deferred.ofValue, Sem.run_bind, Sem.run_pure, Result.andThen_ok, invoke, Array.empty_append, Array.append_empty, hcl, Oper.upon_enter, hd]
  refine (hc w).mono ?_
  rintro e w' ⟨rfl, hb⟩
  exact h _ _ ((hs.grow hb).put hok v)
theorem op_ext {F : FuncId} (hs : St n w0 fs bs a w) (m : Option Nat) {f : Operand} {xs : Array Operand} {ts : Array TypeId} {vs : List Value} {v : Value} {d : Nat} (ho : o.op = .call ⟨.value f, xs, ts⟩) (hd : o.dst = some d)
    (hf : ev fs f = some (.func (.func F) #[] #[])) (hx : evs fs xs.toList = some vs) (hcl : ∀ w, (callFunc F vs.toArray).run P w = .ok (.value v) w) (hok : okf m fs d n = true)
    (h : ∀ a', St n w0 (putf m fs d v) bs a' w → K a' w) : o.wp P a w K Q := by
  have hm : xs.map a.eval = vs.toArray := by
    have := hs.evs hx
    rw [← this, ← Array.toList_map]
  unfold Oper.wp execOp
  rw [ho]
  simp only [resolve, hs.ev hf, hm, Deferred.ofValue, Sem.run_bind, Sem.run_pure, Result.andThen_ok, invoke, Array.empty_append, Array.append_empty, hcl, Oper.upon_value, hd]
  exact h _ (hs.put hok v)
theorem op_blt {b : Builtin} (hs : St n w0 fs bs a w) (m : Option Nat) {xs : Array Operand} {ts : Array TypeId} {vs : List Value} {v : Value} {d : Nat} (ho : o.op = .call ⟨.builtin b, xs, ts⟩) (hd : o.dst = some d)
    (hx : evs fs xs.toList = some vs) (hcl : ∀ c w, (builtin b ts o.type c vs.toArray).run P w = .ok (.value v) w) (hok : okf m fs d n = true)
    (h : ∀ a', St n w0 (putf m fs d v) bs a' w → K a' w) : o.wp P a w K Q := by
  have hm : xs.map a.eval = vs.toArray := by
    have := hs.evs hx
    rw [← this, ← Array.toList_map]
  unfold Oper.wp execOp
  rw [ho]
  simp only [resolve, hm, Sem.run_bind, Sem.run_pure, Result.andThen_ok, invoke, hcl, Oper.upon_value, hd]
  exact h _ (hs.put hok v)
def ldv (ag : Bool) (m : Nat) (cs : List Value) (i : Nat) : Option Value :=
  bif ag then (bif Nat.ble (i + m) cs.length then some (.agg ((cs.drop i).take m).toArray) else none) else cs[i]?
theorem run_ldv {t : TypeId} {g i : Nat} {T : TypeId} {cs : List Value} {ag : Bool} {m : Nat} {v : Value} (hb : w.heap[g]? = some (.cells cs.toArray T (0, 0))) (hu : ∀ w, (isAgg t).run P w = .ok ag w) (hz : ∀ w, (sizeOf t).run P w = .ok m w)
    (hl : ldv ag m cs i = some v) : (loadVar t ⟨g, i, none⟩).run P w = .ok v w := by
  have hc : ∀ j, w.cell? ⟨g, j, none⟩ = cs[j]? := fun j => by rw [cell_of_row w g j _ T _ hb]; simp
  unfold loadVar
  rw [Sem.run_bind, hu]
  simp only [Result.andThen_ok]
  cases ag with
  | false =>
    simp only [ldv, cond_false] at hl
    simp only [Bool.false_eq_true, if_false]
    simp [hc, hl]
  | true =>
    simp only [ldv, cond_true] at hl
    have hle : i + m ≤ cs.length := by
      cases hb : Nat.ble (i + m) cs.length with
      | true => exact Nat.le_of_ble_eq_true hb
      | false => rw [hb] at hl; simp at hl
    rw [show Nat.ble (i + m) cs.length = true from Nat.ble_eq_true_of_le hle] at hl
    simp only [cond_true, Option.some.injEq] at hl
    subst hl
    simp only [if_true, Sem.run_bind, hz, Result.andThen_ok]
    have hlen : ((cs.drop i).take m).length = m := by simp; omega
    have := run_loadCells_list (P := P) w ⟨g, i, none⟩ ((cs.drop i).take m) (fun j v hv => by
      rw [Addr.add_mid, hc]
      rw [List.getElem?_take] at hv
      split at hv
      · rw [List.getElem?_drop] at hv; exact hv
      · cases hv)
    rw [hlen] at this
    simp [this]
theorem op_load (hs : St n w0 fs bs a w) (m : Option Nat) (k : Nat) {t : TypeId} {x : Operand} {g i : Nat} {T : TypeId} {cs : List Value} {ag : Bool} {z : Nat} {v : Value} {d : Nat} (ho : o.op = .load t x) (hd : o.dst = some d)
    (hx : ev fs x = some (.pointer (some ⟨g, i, none⟩))) (hb : bs[k]? = some (true, g, T, cs)) (hu : ∀ w, (isAgg t).run P w = .ok ag w) (hz : ∀ w, (sizeOf t).run P w = .ok z w) (hl : ldv ag z cs i = some v) (hok : okf m fs d n = true)
    (h : ∀ a', St n w0 (putf m fs d v) bs a' w → K a' w) : o.wp P a w K Q :=
  op_val hs m hd hok (by
    unfold execOp
    rw [ho]
    simp only [hs.ev hx, Instr.loadAt, Instr.sureAddr, Sem.run_bind, Sem.run_pure, Result.andThen_ok, run_ldv (hs.blk hb) hu hz hl]) h
theorem op_loadOld (hs : St n w0 fs bs a w) (m : Option Nat) {t : TypeId} {x : Operand} {p : Addr} {v : Value} {d : Nat} (ho : o.op = .load t x) (hd : o.dst = some d)
    (hx : ev fs x = some (.pointer (some p))) (hu : ∀ w, (isAgg t).run P w = .ok false w) (hX : w0.X = noX) (hc : w0.cell? p = some v) (hok : okf m fs d n = true)
    (h : ∀ a', St n w0 (putf m fs d v) bs a' w → K a' w) : o.wp P a w K Q :=
  op_val hs m hd hok (by
    unfold execOp
    rw [ho]
    have hc' : w.cell? p = some v := by rw [hs.below.cell (block_lt_of_cell hc) (by rw [hX]; exact id)]; exact hc
    simp [hs.ev hx, Instr.loadAt, Instr.sureAddr, loadVar, Sem.run_bind, hu, Result.andThen, hc']) h
theorem heap_alloc_at (w : World) (ob : Obj) : (w.alloc ob).heap[w.heap.size]? = some ob := heap_alloc_new w ob
theorem op_alloc (hs : St n w0 fs bs a w) (m mb : Option Nat) {t : TypeId} {z : Value} {cs : List Value} {d : Nat} (ho : o.op = .alloc t) (hd : o.dst = some d) (hz : ∀ w, (zeroValue t).run P w = .ok z w) (hc : z.cells = cs.toArray)
    (hokb : okb mb bs = true) (hok : okf m fs d n = true)
    (h : ∀ g a' w', St n w0 (putf m fs d (.pointer (some ⟨g, 0, none⟩))) (putb mb bs (true, g, t, cs)) a' w' → K a' w') : o.wp P a w K Q := by
  unfold Oper.wp execOp
  rw [ho]
  simp only [Instr.alloc, Sem.run_bind, hz, Result.andThen_ok, newVar, newRow, run_newObj_alloc, Sem.run_pure, Oper.upon_value, hd, hc]
  exact h _ _ _ ((hs.add hokb ((Below.refl _ _).alloc (Nat.le_refl _) _) (Nat.le_refl _) (heap_alloc_at w _)).put hok _)
theorem op_box (hs : St n w0 fs bs a w) (m mb : Option Nat) {t : TypeId} {x : Operand} {v : Value} {cs : List Value} {d : Nat} (ho : o.op = .box t x) (hd : o.dst = some d) (hx : ev fs x = some v) (hc : v.cells = cs.toArray)
    (hokb : okb mb bs = true) (hok : okf m fs d n = true)
    (h : ∀ g a' w', St n w0 (putf m fs d (.pointer (some ⟨g, 0, none⟩))) (putb mb bs (true, g, t, cs)) a' w' → K a' w') : o.wp P a w K Q := by
  unfold Oper.wp execOp
  rw [ho]
  simp only [hs.ev hx, Instr.box, Sem.run_bind, Result.andThen_ok, newVar, newRow, run_newObj_alloc, Sem.run_pure, Oper.upon_value, hd, hc]
  exact h _ _ _ ((hs.add hokb ((Below.refl _ _).alloc (Nat.le_refl _) _) (Nat.le_refl _) (heap_alloc_at w _)).put hok _)
theorem op_store (hs : St n w0 fs bs a w) (k : Nat) {t : TypeId} {x y : Operand} {g i z : Nat} {T : TypeId} {cs : List Value} {v : Value} {vs : List Value} (ho : o.op = .store t x y) (hd : o.dst = none)
    (hx : ev fs x = some (.pointer (some ⟨g, i, none⟩))) (hy : ev fs y = some v) (hb : bs[k]? = some (true, g, T, cs)) (hz : ∀ w, (sizeOf t).run P w = .ok z w) (hv : v.cells = vs.toArray) (hvz : vs.length = z) (h1 : vs.all (·.oneCell') = true)
    (hle : Nat.ble (i + z) cs.length = true) {cs' : List Value} (hw : wr cs i vs = cs') (h : ∀ w', St n w0 fs (bs.set k (true, g, T, cs')) a w' → K a w') : o.wp P a w K Q := by
  subst hw
  have hrun : (Instr.storeAt t (.pointer (some ⟨g, i, none⟩)) v).run P w = .ok () (w.setCells g i vs) := by
    have hc : ∀ j, w.cell? ⟨g, j, none⟩ = cs[j]? := fun j => by rw [cell_of_row w g j _ T _ (hs.blk hb)]; simp
    have := run_storeCells_cells (P := P) g i vs 0 w (fun j hj => by have := Nat.le_of_ble_eq_true hle; rw [Nat.add_zero, hc]; simp; omega) (fun j hj => frozen_of_row w g _ _ T (hs.blk hb)) (fun v hv => (List.all_eq_true.1 h1) v hv)
    simp only [Nat.add_zero] at this
    simp only [Instr.storeAt, Instr.sureAddr, Sem.run_bind, Sem.run_pure, Result.andThen_ok, storeVar, hz, hv]
    simp [hvz, this]
  unfold Oper.wp execOp
  rw [ho]
  simp only [hs.ev hx, hs.ev hy, Sem.run_bind, hrun, Result.andThen_ok, Sem.run_pure, Oper.upon_skip, hd]
  exact h _ (hs.store hb i vs)
end
end Go.Proofs.YtejbajgpiecjcaaGreat

/- A region that draws its order: each operation is looked at once, whatever came ahead of it. -/
namespace Go.Proofs.YtejbajgpiecjcaaGreat
open Go.RowKit
def memb (k : Nat) : List Nat → Bool
  | [] => false
  | i :: l => bif Nat.beq i k then true else memb k l
theorem memb_iff {k : Nat} : ∀ {l : List Nat}, memb k l = true ↔ k ∈ l
  | [] => by simp [memb]
  | i :: l => by
    cases hb : Nat.beq i k
    · have hne : i ≠ k := fun h => by rw [beqN.2 h] at hb; simp at hb
      simp only [memb, hb, cond_false, memb_iff, List.mem_cons]
      exact ⟨.inr, fun h => h.resolve_left fun e => hne e.symm⟩
    · have := beqN.1 hb
      simp [memb, hb, this]
def frc (i : Nat) (p : List Nat × List Nat) (L : Nat → Bool) (k : Nat) : Bool := bif memb k p.1 then true else bif memb k (i :: p.2) then false else L k
def upf (L : Nat → Bool) (i k : Nat) : Bool := bif Nat.beq i k then true else L k
section
variable {P : Program} {Q : Exit → Act → World → Prop} {K : Act → World → Prop} {a : Act} {w : World} {o : Oper}
def wpO (P : Program) (ops : Array Oper) (Q : Exit → Act → World → Prop) (o : Oper) (K : Act → World → Prop) (a : Act) (w : World) : Prop :=
  if Region.wanted o (yielded ops a.tmps) then o.wp P a w K Q else K (a.put o.dst undef) w
theorem wpO_plain {ops : Array Oper} (hg : o.guard = none) (h : o.wp P a w K Q) : wpO P ops Q o K a w := by
  unfold wpO
  rw [if_pos (by simp [Region.wanted, hg])]
  exact h
theorem wpO_in {n : Nat} {w0 : Bs} {fs : List Sl} {bs : List Bl} {ops : Array Oper} {j d : Nat} {b : Bool} (hs : St n w0 fs bs a w) (hg : o.guard = some (j, b)) (hj : (ops[j]?).bind (·.dst) = some d) (hv : lk fs d = some (.bool b)) (h : o.wp P a w K Q) : wpO P ops Q o K a w := by
  unfold wpO
  rw [if_pos (by simp [Region.wanted, hg, yielded, hj, hs.slots d _ hv])]
  exact h
theorem wpO_out {n : Nat} {w0 : Bs} {fs : List Sl} {bs : List Bl} {ops : Array Oper} {j d e : Nat} {b : Bool} (hs : St n w0 fs bs a w) (m : Option Nat) (hg : o.guard = some (j, b)) (hj : (ops[j]?).bind (·.dst) = some d) (hv : lk fs d = some (.bool (!b)) ∨ lk fs d = some undef) (hd : o.dst = some e) (hok : okf m fs e n = true)
    (h : ∀ a', St n w0 (putf m fs e undef) bs a' w → K a' w) : wpO P ops Q o K a w := by
  unfold wpO
  rw [if_neg (by rcases hv with hv | hv <;> simp [Region.wanted, hg, yielded, hj, hs.slots d _ hv, undef]), hd]
  exact h _ (hs.put hok _)
theorem lstep {ops : Array Oper} {rest : List Oper} (h : wpO P ops Q o (wpList P ops Q rest) a w) : wpList P ops Q (o :: rest) a w :=
  wpList_step fun K hK => by
    unfold wpO at h
    split
    · rename_i hw; rw [if_pos hw] at h; exact Oper.wp_mono hK h
    · rename_i hw; rw [if_neg hw] at h; exact hK _ _ h
def dep (o : Oper) : List Nat := o.after.toList.filterMap fun e => if Region.binds .any e then some e.on else none
def tabRow (ops : List Oper) (tab : List (List Nat × List Nat)) (i : Nat) : Bool :=
  match ops[i]?, tab[i]? with
  | some o, some p => (dep o).all (fun k => Nat.blt k i) && p.1.all (fun k => memb k (dep o) || (dep o).any fun d => memb k (tab.getD d ([], [])).1) && p.2.all (fun j => Nat.blt j ops.length && memb i (tab.getD j ([], [])).1)
  | _, _ => false
def tabOk (ops : List Oper) (tab : List (List Nat × List Nat)) : Bool := (List.range ops.length).all (tabRow ops tab)
def Steps (P : Program) (ops : Array Oper) (Q : Exit → Act → World → Prop) (J : (Nat → Bool) → Act → World → Prop) : List Oper → List (List Nat × List Nat) → Nat → Prop
  | [], _, _ => True
  | _ :: _, [], _ => False
  | o :: l, p :: t, i => (∀ L a w, J (frc i p L) a w → wpO P ops Q o (J (upf (frc i p L) i)) a w) ∧ Steps P ops Q J l t (i + 1)
theorem Steps.get {ops : Array Oper} {J : (Nat → Bool) → Act → World → Prop} : ∀ {l : List Oper} {tab : List (List Nat × List Nat)} {i : Nat}, Steps P ops Q J l tab i → ∀ (j : Nat) o p, l[j]? = some o → tab[j]? = some p →
    ∀ L a w, J (frc (i + j) p L) a w → wpO P ops Q o (J (upf (frc (i + j) p L) (i + j))) a w
  | o :: l, p :: t, i, h, 0, o', p', ho, hp => by
    obtain rfl : o = o' := by simpa using ho
    obtain rfl : p = p' := by simpa using hp
    exact h.1
  | o :: l, p :: t, i, h, j + 1, o', p', ho, hp => by
    have := h.2.get j o' p' (by simpa using ho) (by simpa using hp)
    rwa [show i + 1 + j = i + (j + 1) by omega] at this
  | [], _, _, _, _, _, _, ho, _ => by simp at ho
  | _ :: _, [], _, h, _, _, _, _, _ => h.elim
def nfl : List Bool → Nat
  | [] => 0
  | b :: l => (bif b then 0 else 1) + nfl l
theorem nfl_set : ∀ (l : List Bool) (i : Nat), l[i]? = some false → nfl (l.set i true) + 1 = nfl l
  | [], i, h => by simp at h
  | b :: l, 0, h => by
    obtain rfl : b = false := by simpa using h
    simp [nfl]; omega
  | b :: l, i + 1, h => by
    have := nfl_set l i (by simpa using h)
    simp only [List.set_cons_succ, nfl]
    omega
theorem nfl_zero : ∀ (l : List Bool), nfl l = 0 → ∀ (i : Nat) (b : Bool), l[i]? = some b → b = true
  | [], _, i, b, h => by simp at h
  | c :: l, h0, 0, b, h => by
    obtain rfl : c = b := by simpa using h
    cases c
    · simp [nfl] at h0
    · rfl
  | c :: l, h0, i + 1, b, h => nfl_zero l (by simp only [nfl] at h0; omega) i b (by simpa using h)
theorem nfl_pos : ∀ (l : List Bool), 0 < nfl l → ∃ i : Nat, l[i]? = some false ∧ ∀ j, j < i → l[j]? = some true
  | [], h => by simp [nfl] at h
  | false :: l, _ => ⟨0, rfl, fun j hj => by omega⟩
  | true :: l, h => by
    obtain ⟨i, h1, h2⟩ := nfl_pos l (by simpa [nfl] using h)
    refine ⟨i + 1, by simpa using h1, fun j hj => ?_⟩
    cases j with
    | zero => rfl
    | succ j => simpa using h2 j (by omega)
theorem nfl_rep : ∀ n, nfl (List.replicate n false) = n
  | 0 => rfl
  | n + 1 => by simp only [List.replicate_succ, nfl, nfl_rep n, cond_false]; omega
def flg (listed : Array Bool) (k : Nat) : Bool := listed.getD k true
theorem mem_ready {ops : Array Oper} {listed : Array Bool} {i : Nat} : i ∈ Region.ready .any ops listed ↔ ∃ o, ops[i]? = some o ∧ flg listed i = false ∧ ∀ k ∈ dep o, listed.getD k false = true := by
  unfold Region.ready
  simp only [List.mem_filter, List.mem_range, Bool.and_eq_true, Bool.not_eq_true']
  constructor
  · rintro ⟨hlt, h1, h2⟩
    refine ⟨ops[i], by simp [hlt], h1, fun k hk => ?_⟩
    rw [Array.getElem?_eq_getElem hlt] at h2
    simp only [Option.map_some, Option.getD_some] at h2
    unfold dep at hk
    obtain ⟨e, he, hek⟩ := List.mem_filterMap.1 hk
    split at hek
    · rename_i hb
      obtain rfl : e.on = k := by simpa using hek
      have := (Array.all_eq_true_iff_forall_mem.1 h2) e (by simpa using he)
      simpa [hb] using this
    · cases hek
  · rintro ⟨o, ho, h1, h2⟩
    obtain ⟨hlt, rfl⟩ := Array.getElem?_eq_some_iff.1 ho
    refine ⟨hlt, h1, ?_⟩
    rw [ho]
    simp only [Option.map_some, Option.getD_some]
    refine Array.all_eq_true_iff_forall_mem.2 fun e he => ?_
    by_cases hb : Region.binds .any e = true
    · have := h2 e.on (List.mem_filterMap.2 ⟨e, by simpa using he, by simp [hb]⟩)
      simp [this]
    · simp [hb]
theorem wpOp_of {ops : Array Oper} {i : Nat} (ho : ops[i]? = some o) (h : wpO P ops Q o K a w) : wpOp P ops Q i K a w := by
  unfold wpOp
  rw [ho]
  unfold wpO at h
  show if Region.wanted o (yielded ops a.tmps) = true then _ else _
  split
  · rename_i hw; rw [if_pos hw] at h; exact .inl h
  · rename_i hw; rw [if_neg hw] at h; exact h
theorem any_inv {ops : Array Oper} {J : (Nat → Bool) → Act → World → Prop} {tab : List (List Nat × List Nat)} (hT : tabOk ops.toList tab = true) (hS : Steps P ops Q J ops.toList tab 0) (hend : ∀ a w, J (fun _ => true) a w → Q .normal a w) :
    ∀ (fuel : Nat) (listed : Array Bool) (a : Act) (w : World), listed.size = ops.size → nfl listed.toList = fuel → (∀ j p, tab[j]? = some p → listed.getD j false = true → ∀ k ∈ p.1, listed.getD k false = true) → J (flg listed) a w → wpAny P .any ops Q fuel listed a w := by
  have row : ∀ i, i < ops.size → tabRow ops.toList tab i = true := fun i hi => (List.all_eq_true.1 hT) i (by simpa using hi)
  intro fuel
  induction fuel with
  | zero =>
    intro listed a w hsz hf hok hJ
    have hall : ∀ i, flg listed i = true := fun i => by
      unfold flg
      cases hb : listed[i]? with
      | none => simp [hb]
      | some b =>
        have := nfl_zero _ hf i b (by simpa using hb)
        simp [hb, this]
    refine ⟨?_, hend a w (by rw [show (fun _ => true) = flg listed from (funext hall).symm]; exact hJ)⟩
    refine List.eq_nil_iff_forall_not_mem.2 fun i hi => ?_
    obtain ⟨_, _, h, _⟩ := mem_ready.1 hi
    rw [hall i] at h
    cases h
  | succ fuel ih =>
    intro listed a w hsz hf hok hJ
    constructor
    · intro hr
      obtain ⟨i, h1, h2⟩ := nfl_pos listed.toList (by omega)
      have hlt : i < ops.size := by
        have := (List.getElem?_eq_some_iff.1 h1).1
        simpa [hsz] using this
      refine absurd (mem_ready.2 ⟨ops[i], by simp [hlt], by simp [flg, ← Array.getElem?_toList, h1], fun k hk => ?_⟩) (List.eq_nil_iff_forall_not_mem.1 hr i)
      have := row i hlt
      unfold tabRow at this
      rw [show ops.toList[i]? = some ops[i] by simp [hlt]] at this
      cases ht : tab[i]? with
      | none => rw [ht] at this; simp at this
      | some p =>
        rw [ht] at this
        simp only [Bool.and_eq_true] at this
        have hki := (List.all_eq_true.1 this.1.1) k hk
        have hki' : k < i := by simpa using hki
        simp [← Array.getElem?_toList, h2 k hki']
    · intro i hi
      obtain ⟨o, ho, h1, h2⟩ := mem_ready.1 hi
      obtain ⟨hlt, _⟩ := Array.getElem?_eq_some_iff.1 ho
      have hrow := row i hlt
      unfold tabRow at hrow
      rw [show ops.toList[i]? = some o by simpa using ho] at hrow
      cases ht : tab[i]? with
      | none => rw [ht] at hrow; simp at hrow
      | some p =>
        rw [ht] at hrow
        simp only [Bool.and_eq_true] at hrow
        obtain ⟨⟨r1, r2⟩, r3⟩ := hrow
        have hp1 : ∀ k ∈ p.1, listed.getD k false = true := fun k hk => by
          have := (List.all_eq_true.1 r2) k hk
          rcases Bool.or_eq_true_iff.1 this with h | h
          · exact h2 k (memb_iff.1 h)
          · obtain ⟨d, hd, hkd⟩ := List.any_eq_true.1 h
            cases htd : tab[d]? with
            | none => simp [htd, memb] at hkd
            | some q =>
              refine hok d q htd (h2 d hd) k (memb_iff.1 ?_)
              simpa [htd] using hkd
        have hli : listed[i]? = some false := by
          have hi' : i < listed.size := by omega
          simp only [flg, Array.getD, hi', dite_true] at h1
          rw [Array.getElem?_eq_getElem hi']
          exact congrArg some h1
        have hfrc : frc i p (flg listed) = flg listed := by
          funext k
          unfold frc
          cases hk1 : memb k p.1
          · cases hk2 : memb k (i :: p.2)
            · rfl
            · simp only [cond_false, cond_true]
              rcases List.mem_cons.1 (memb_iff.1 hk2) with rfl | hk
              · exact h1.symm
              · have := (List.all_eq_true.1 r3) k hk
                simp only [Bool.and_eq_true] at this
                have hkl : k < ops.size := by simpa using this.1
                cases htk : tab[k]? with
                | none => simp [htk, memb] at this
                | some q =>
                  have hik : i ∈ q.1 := memb_iff.1 (by simpa [htk] using this.2)
                  cases hc : flg listed k
                  · rfl
                  · exfalso
                    have hk' : listed.getD k false = true := by
                      have hks : k < listed.size := by omega
                      simp only [flg, Array.getD, hks, dite_true] at hc ⊢
                      exact hc
                    have := hok k q htk hk' i hik
                    simp [hli] at this
          · simp only [cond_true]
            have := hp1 k (memb_iff.1 hk1)
            simp only [flg, Array.getD] at this ⊢
            split at this
            · rename_i hh; simp only [hh, dite_true]; exact this.symm
            · cases this
        have hstep := hS.get i o p (by simpa using ho) ht
        rw [Nat.zero_add] at hstep
        have := hstep (flg listed) a w (by rw [hfrc]; exact hJ)
        rw [hfrc] at this
        refine wpOp_mono (fun a' w' hJ' => ?_) (wpOp_of ho this)
        refine ih _ a' w' (by simpa using hsz) ?_ ?_ ?_
        · have := nfl_set listed.toList i (by simpa using hli)
          rw [Array.toList_setIfInBounds]
          omega
        · intro j q hj hjt k hk
          by_cases hki : i = k
          · subst hki
            have : i < listed.size := by omega
            simp [this]
          · have hold : listed.getD k false = true := by
              by_cases hji : i = j
              · subst hji
                rw [ht] at hj
                obtain rfl : p = q := by simpa using hj
                exact hp1 k hk
              · refine hok j q hj ?_ k hk
                simpa [Array.getElem?_setIfInBounds_ne hji] using hjt
            simpa [Array.getElem?_setIfInBounds_ne hki] using hold
        · have : flg (listed.setIfInBounds i true) = upf (flg listed) i := by
            funext k
            unfold upf flg
            by_cases hki : i = k
            · subst hki
              have : i < listed.size := by omega
              simp [this]
            · have hb : Nat.beq i k = false := by
                cases hb : Nat.beq i k
                · rfl
                · exact absurd (beqN.1 hb) hki
              simp [Array.getElem?_setIfInBounds_ne hki, hb]
          rw [this]
          exact hJ'
theorem blt_iff {a b : Nat} : Nat.blt a b = true ↔ a < b := by simp [Nat.blt_eq]
theorem region_inv {id : Nat} {l : List Oper} (tab : List (List Nat × List Nat)) (J : (Nat → Bool) → Act → World → Prop) (hm : P.follows .mixedOrders = true) (hT : tabOk l tab = true)
    (h0 : J (fun k => !Nat.blt k l.length) a w.drew) (hS : Steps P l.toArray Q J l tab 0) (hend : ∀ a w, J (fun _ => true) a w → Q .normal a w) : (Code.region id l.toArray true).wp P Q a w := by
  refine wp_region_any hm ?_
  refine any_inv (J := J) (tab := tab) (by simpa using hT) (by simpa using hS) hend _ _ _ _ (by simp) (by simpa using nfl_rep l.length) ?_ ?_
  · intro j p _ h k _
    simp [Array.getElem?_replicate] at h
    split at h <;> simp at h
  · have : flg (Array.replicate l.toArray.size false) = fun k => !Nat.blt k l.length := by
      funext k
      unfold flg
      by_cases hk : k < l.length
      · simp [hk, Array.getElem?_replicate, blt_iff.2 hk]
      · have : Nat.blt k l.length = false := by
          cases hb : Nat.blt k l.length
          · rfl
          · exact absurd (blt_iff.1 hb) hk
        simp [hk, Array.getElem?_replicate, this]
    rw [this]
    exact h0
end
end Go.Proofs.YtejbajgpiecjcaaGreat

/- What joins the walks: the ways out of code, results, loops, addresses. -/
namespace Go.Proofs.YtejbajgpiecjcaaGreat
open Go.RowKit
section
variable {P : Program} {Q : Exit → Act → World → Prop} {K : Act → World → Prop} {a : Act} {w : World} {o : Oper} {n : Nat} {w0 : Bs} {fs : List Sl} {bs : List Bl}
theorem then_n (h : K a w) : Exit.then K Q .normal a w := h
theorem then_e {id : Nat} (h : Q (.exit id) a w) : Exit.then K Q (.exit id) a w := h
theorem then_r (h : Q .ret a w) : Exit.then K Q .ret a w := h
theorem blk_n {id : Nat} (h : Q .normal a w) : Exit.inBlock id Q .normal a w := h
theorem blk_e {id : Nat} (h : Q .normal a w) : Exit.inBlock id Q (.exit id) a w := by simpa [Exit.inBlock] using h
theorem blk_r {id : Nat} (h : Q .ret a w) : Exit.inBlock id Q .ret a w := h
def subl (fs : List Sl) : List Sl → Prop
  | [] => True
  | s :: l => lk fs s.1 = some s.2.2 ∧ subl fs l
theorem subl_lk : ∀ {fs' : List Sl}, subl fs fs' → ∀ t v, lk fs' t = some v → lk fs t = some v
  | [], _, _, _, h => by simp [lk] at h
  | s :: l, h, t, v, e => by
    by_cases hs : s.1 = t
    · rw [lk_cons_eq hs] at e
      cases hb : s.2.1
      · rw [hb] at e; exact subl_lk h.2 t v (by simpa using e)
      · rw [hb] at e
        rw [← hs, h.1]
        simpa using e
    · rw [lk_cons_ne hs] at e; exact subl_lk h.2 t v e
theorem St.re {fs' : List Sl} (hs : St n w0 fs bs a w) (h : subl fs fs') : St n w0 fs' bs a w :=
  ⟨hs.size, hs.defers, fun t v e => hs.slots t v (subl_lk h t v e), hs.blks, hs.apart, hs.below, hs.frz, hs.fz⟩
theorem St.takeb (hs : St n w0 fs bs a w) (k : Nat) : St n w0 fs (bs.take k) a w := by
  have key : ∀ (i : Nat) (e : Bl), (bs.take k)[i]? = some e → bs[i]? = some e := fun i e h => by
    rw [List.getElem?_take] at h
    split at h
    · exact h
    · cases h
  exact ⟨hs.size, hs.defers, hs.slots, fun i e h => hs.blks i e (key i e h), fun i j e e' hij h h' => hs.apart i j e e' hij (key i e h) (key j e' h'), hs.below, fun p hp => ⟨(hs.frz p hp).1, fun i e h h1 => (hs.frz p hp).2 i e (key i e h) h1⟩, fun i e h h1 => Fz.ok_mono (fun _ _ h => h) (fun g hg _ => ⟨⟨hg.1, fun j b hb hb1 => hg.2.1 j b (key j b hb) hb1, hg.2.2⟩, rfl⟩) (hs.fz i e h h1)⟩
theorem St.setb (hs : St n w0 fs bs a w) (k : Nat) {b : Bool} {g : Nat} {T : TypeId} {cs cs' : List Value} (h : bs[k]? = some (b, g, T, cs)) (hc : cs = cs') : St n w0 fs (bs.set k (b, g, T, cs')) a w := by
  subst hc
  have : bs.set k (b, g, T, cs) = bs := by
    apply List.ext_getElem?
    intro i
    rw [List.getElem?_set]
    split
    · rename_i hk
      subst hk
      rw [h, if_pos (List.getElem?_eq_some_iff.1 h).1]
    · rfl
  rw [this]
  exact hs
def rvRun (tmps : Array Value) (r : ResultVar) : Sem Value :=
  match r with
  | .tmp t => pure (tmps.getD t undef)
  | .cell a t => do loadVar t (← asAddr (tmps.getD a undef))
theorem results_rv (fn : Func) (tmps : Array Value) : results fn tmps = (do
    let vs ← fn.results.mapM (rvRun tmps)
    pure (if h : vs.size = 1 then vs[0] else .tuple vs)) := rfl
theorem rv_t (hs : St n w0 fs bs a w) {t : Nat} {v : Value} (h : lk fs t = some v) : (rvRun a.tmps (.tmp t)).run P w = .ok v w := by
  simp [rvRun, hs.slots t v h]
theorem rv_c (hs : St n w0 fs bs a w) (k : Nat) {p T : Nat} {g i : Nat} {U : TypeId} {cs : List Value} {ag : Bool} {z : Nat} {v : Value} (h : lk fs p = some (.pointer (some ⟨g, i, none⟩))) (hb : bs[k]? = some (true, g, U, cs))
    (hu : ∀ w, (isAgg T).run P w = .ok ag w) (hz : ∀ w, (sizeOf T).run P w = .ok z w) (hl : ldv ag z cs i = some v) : (rvRun a.tmps (.cell p T)).run P w = .ok v w := by
  simp [rvRun, hs.slots p _ h, asAddr, Sem.run_bind, Result.andThen, run_ldv (hs.blk hb) hu hz hl]
theorem res1 {fn : Func} {r : ResultVar} {v : Value} (h : fn.results = #[r]) (h1 : (rvRun a.tmps r).run P w = .ok v w) : (results fn a.tmps).run P w = .ok v w := by
  rw [results_rv, h, show (#[r] : Array ResultVar) = [r].toArray from rfl, List.mapM_toArray]
  simp only [List.mapM_cons, List.mapM_nil, map_eq_pure_bind, bind_assoc, pure_bind, Sem.run_bind, h1, Result.andThen_ok, Sem.run_pure]
  rfl
theorem res2 {fn : Func} {r r' : ResultVar} {v v' : Value} (h : fn.results = #[r, r']) (h1 : (rvRun a.tmps r).run P w = .ok v w) (h2 : (rvRun a.tmps r').run P w = .ok v' w) : (results fn a.tmps).run P w = .ok (.tuple #[v, v']) w := by
  rw [results_rv, h, show (#[r, r'] : Array ResultVar) = [r, r'].toArray from rfl, List.mapM_toArray]
  simp only [List.mapM_cons, List.mapM_nil, map_eq_pure_bind, bind_assoc, pure_bind, Sem.run_bind, h1, h2, Result.andThen_ok, Sem.run_pure]
  rfl
theorem res3 {fn : Func} {r r' r'' : ResultVar} {v v' v'' : Value} (h : fn.results = #[r, r', r'']) (h1 : (rvRun a.tmps r).run P w = .ok v w) (h2 : (rvRun a.tmps r').run P w = .ok v' w) (h3 : (rvRun a.tmps r'').run P w = .ok v'' w) :
    (results fn a.tmps).run P w = .ok (.tuple #[v, v', v'']) w := by
  rw [results_rv, h, show (#[r, r', r''] : Array ResultVar) = [r, r', r''].toArray from rfl, List.mapM_toArray]
  simp only [List.mapM_cons, List.mapM_nil, map_eq_pure_bind, bind_assoc, pure_bind, Sem.run_bind, h1, h2, h3, Result.andThen_ok, Sem.run_pure]
  rfl
theorem least {p : Nat → Prop} (h : ∃ m, p m) : ∃ m, p m ∧ ∀ k, p k → m ≤ k := by
  obtain ⟨m, hm⟩ := h
  induction m using Nat.strongRecOn with
  | _ m ih =>
    by_cases hk : ∃ k, k < m ∧ p k
    · obtain ⟨k, hk, hp⟩ := hk; exact ih k hk hp
    · exact ⟨m, hm, fun k hp => Nat.le_of_not_lt fun hlt => hk ⟨k, hlt, hp⟩⟩
theorem wp_loop_m {c : Code} (I : Nat → Act → World → Prop) (h0 : ∃ m, I m a w) (h : ∀ m a w, I m a w → c.wp P (Exit.then (fun a' w' => ∃ m', I m' a' w' ∧ m' < m) Q) a w) : (Code.loop c).wp P Q a w := by
  classical
  refine wp_loop (fun a w => ∃ m, I m a w) (fun a w => if h : ∃ m, I m a w then Classical.choose (least h) else 0) h0 fun a w hI => ?_
  have hm := Classical.choose_spec (least hI)
  refine Code.wp_mono ?_ (h _ a w hm.1)
  intro e a' w' hq
  cases e with
  | normal =>
    obtain ⟨m', hI', hlt⟩ := hq
    have hex : ∃ m, I m a' w' := ⟨m', hI'⟩
    refine ⟨hex, ?_⟩
    rw [dif_pos hex, dif_pos hI]
    exact Nat.lt_of_le_of_lt ((Classical.choose_spec (least hex)).2 m' hI') hlt
  | exit id => exact hq
  | goto l => exact hq
  | ret => exact hq
  | panic ch => exact hq
  | outgrown => exact hq
theorem op_pickT (hs : St n w0 fs bs a w) (m : Option Nat) {c x y : Operand} {v : Value} {d : Nat} (ho : o.op = .pick c x y) (hd : o.dst = some d) (hc : ev fs c = some (.bool true)) (hx : ev fs x = some v) (hok : okf m fs d n = true)
    (h : ∀ a', St n w0 (putf m fs d v) bs a' w → K a' w) : o.wp P a w K Q :=
  op_val hs m hd hok (by unfold execOp; rw [ho]; simp [hs.ev hc, hs.ev hx, asBool, Sem.run_bind, Result.andThen]) h
theorem op_pickF (hs : St n w0 fs bs a w) (m : Option Nat) {c x y : Operand} {v : Value} {d : Nat} (ho : o.op = .pick c x y) (hd : o.dst = some d) (hc : ev fs c = some (.bool false)) (hx : ev fs y = some v) (hok : okf m fs d n = true)
    (h : ∀ a', St n w0 (putf m fs d v) bs a' w → K a' w) : o.wp P a w K Q :=
  op_val hs m hd hok (by unfold execOp; rw [ho]; simp [hs.ev hc, hs.ev hx, asBool, Sem.run_bind, Result.andThen]) h
theorem op_fieldA (hs : St n w0 fs bs a w) (m : Option Nat) {T : TypeId} {x : Operand} {i g j z : Nat} {fl : Field} {fds : Array Field} {d : Nat} (ho : o.op = .fieldAddr T x i) (hd : o.dst = some d) (hx : ev fs x = some (.pointer (some ⟨g, j, none⟩)))
    (hu : P.underlying T = some (.struct fds)) (hf : fds[i]? = some fl) (hz : ∀ w, (sizeOf fl.type).run P w = .ok z w) (hz0 : z ≠ 0) (hok : okf m fs d n = true)
    (h : ∀ a', St n w0 (putf m fs d (.pointer (some ⟨g, j + fl.offset, none⟩))) bs a' w → K a' w) : o.wp P a w K Q :=
  op_val hs m hd hok (by
    unfold execOp
    rw [ho]
    simp [hs.ev hx, Instr.fieldAt, Sem.run_bind, run_underlying hu, Result.andThen, hf, Instr.sureAddr, fieldPlace, hz, hz0, Addr.add_mid]) h
theorem op_idxA (hs : St n w0 fs bs a w) (m : Option Nat) {T E : TypeId} {x y : Operand} {g i z N : Nat} {k : IntKind} {j : Nat} {d : Nat} (ho : o.op = .indexAddr T x y) (hd : o.dst = some d) (hx : ev fs x = some (.pointer (some ⟨g, i, none⟩))) (hy : ev fs y = some (.int k (j : Int)))
    (hu : P.underlying T = some (.array N E)) (hz : ∀ w, (sizeOf E).run P w = .ok z w) (hj : j < N) {off : Nat} (hoff : i + j * z = off) (hok : okf m fs d n = true)
    (h : ∀ a', St n w0 (putf m fs d (.pointer (some ⟨g, off, none⟩))) bs a' w → K a' w) : o.wp P a w K Q :=
  op_val hs m hd hok (by
    subst hoff
    unfold execOp
    rw [ho]
    have h1 : (0 : Int) ≤ (j : Int) ∧ (j : Int) < (N : Int) := ⟨by omega, by omega⟩
    simp [hs.ev hx, hs.ev hy, Instr.indexAt, asIntOf, Sem.run_bind, run_underlying hu, Result.andThen, Instr.sureAddr, hz, h1, hj, Addr.add_mid]) h
end
end Go.Proofs.YtejbajgpiecjcaaGreat

/- Shorter words for a walk's steps. -/
namespace Go.Proofs.YtejbajgpiecjcaaGreat
open Go.RowKit
def lkp : List Sl → Nat → Option Value
  | [], _ => none
  | (d, b, v) :: l, t => match Nat.beq d t with
    | true => (match b with
      | true => some v
      | false => lkp l t)
    | false => lkp l t
theorem lkp_lk : ∀ (l : List Sl) (t : Nat), lkp l t = lk l t
  | [], t => rfl
  | (d, b, v) :: l, t => by
    unfold lkp lk
    rw [lkp_lk l t]
    cases Nat.beq d t <;> cases b <;> rfl
def pickF (fs : List Sl) : List Nat → Option (List Sl)
  | [] => some []
  | t :: ks => match lkp fs t, pickF fs ks with
    | some v, some l => some ((t, true, v) :: l)
    | _, _ => none
def forceL {α : Type} : List α → Option (List α)
  | [] => some []
  | x :: l => match forceL l with
    | some l' => some (x :: l')
    | none => none
theorem forceL_eq {α : Type} : ∀ {l l' : List α}, forceL l = some l' → l = l'
  | [], l', h => by simpa [forceL] using h
  | x :: l, l', h => by
    unfold forceL at h
    split at h
    · rename_i l2 h2
      rw [forceL_eq h2]
      simpa using h
    · cases h
theorem pickF_lk {fs : List Sl} : ∀ {ks : List Nat} {l : List Sl}, pickF fs ks = some l → ∀ t v, lk l t = some v → lk fs t = some v
  | [], l, h, t, v, e => by
    obtain rfl : [] = l := by simpa [pickF] using h
    cases e
  | k :: ks, l, h, t, v, e => by
    unfold pickF at h
    split at h
    · rename_i u l2 h1 h2
      obtain rfl : (k, true, u) :: l2 = l := by simpa using h
      by_cases hk : k = t
      · subst hk
        rw [lk_cons_eq rfl] at e
        rw [← lkp_lk, h1]
        simpa using e
      · rw [lk_cons_ne hk] at e
        exact pickF_lk h2 t v e
    · cases h
section
variable {P : Program} {Q : Exit → Act → World → Prop} {K : Act → World → Prop} {a : Act} {w : World} {o : Oper} {n : Nat} {w0 : Bs} {fs : List Sl} {bs : List Bl} {ops : Array Oper} {rest : List Oper}
theorem St.nf (hs : St n w0 fs bs a w) (W : World) (Z X : Nat → Prop) (ks : List Nat) {S0 S' : List (Bool × Fz)} {fs' : List Sl} {bs' : List Bl} (hw : w0 = ⟨W, [], S0, Z, X⟩) (hS : forceL S0 = some S') (h : pickF fs ks = some fs') (hb : forceL bs = some bs') : St n ⟨W, [], S', Z, X⟩ fs' bs' a w := by
  subst hw
  obtain rfl := forceL_eq hS
  obtain rfl := forceL_eq hb
  exact ⟨hs.size, hs.defers, fun t v e => hs.slots t v (pickF_lk h t v e), hs.blks, hs.apart, hs.below, hs.frz, hs.fz⟩
theorem St.n0 (hs : St n w0 fs bs a w) (ks : List Nat) {fs' : List Sl} {bs' : List Bl} (h : pickF fs ks = some fs') (hb : forceL bs = some bs') : St n w0 fs' bs' a w := by
  obtain rfl := forceL_eq hb
  exact ⟨hs.size, hs.defers, fun t v e => hs.slots t v (pickF_lk h t v e), hs.blks, hs.apart, hs.below, hs.frz, hs.fz⟩
theorem stp (h : o.wp P a w (wpList P ops Q rest) Q) (hg : o.guard = none := by rfl) : wpList P ops Q (o :: rest) a w := lstep (wpO_plain hg h)
theorem mvv (hs : St n w0 fs bs a w) {x : Operand} {v : Value} {d : Nat} (ho : o.op = .move x) (hd : o.dst = some d) (hx : ev fs x = some v) (h : ∀ a', St n w0 (putf none fs d v) bs a' w → wpList P ops Q rest a' w) (hok : okf none fs d n = true := by rfl) (hg : o.guard = none := by rfl) : wpList P ops Q (o :: rest) a w :=
  stp (op_move hs none ho hd hx hok h) hg
theorem asg (hs : St n w0 fs bs a w) {x : Operand} {v : Value} {d : Nat} (ho : o.op = .assign x) (hd : o.dst = some d) (hx : ev fs x = some v) (h : ∀ a', St n w0 (putf none fs d v) bs a' w → wpList P ops Q rest a' w) (hok : okf none fs d n = true := by rfl) (hg : o.guard = none := by rfl) : wpList P ops Q (o :: rest) a w :=
  stp (op_assign hs none ho hd hx hok h) hg
theorem bnn (hs : St n w0 fs bs a w) {b : BinOp} {T U : TypeId} {x y : Operand} {vx vy : Value} (v : Value) {d : Nat} (ho : o.op = .binOp b T x y U) (hd : o.dst = some d) (hx : ev fs x = some vx) (hy : ev fs y = some vy) (hr : ∀ w, (binOp b T vx vy).run P w = .ok v w)
    (h : ∀ a', St n w0 (putf none fs d v) bs a' w → wpList P ops Q rest a' w) (hq : ∀ w, (eqGuard b T x y vx vy).run P w = .ok () w := by exact fun _ => rfl) (hok : okf none fs d n = true := by rfl) (hg : o.guard = none := by rfl) : wpList P ops Q (o :: rest) a w :=
  stp (op_bin hs none ho hd hx hy hq hr hok h) hg
theorem xtr (hs : St n w0 fs bs a w) (m : Option Nat) {x : Operand} {vs : Array Value} {i : Nat} {v : Value} {d : Nat} (ho : o.op = .extract x i) (hd : o.dst = some d) (hx : ev fs x = some (.tuple vs)) (hv : vs.toList[i]? = some v) (hok : okf m fs d n = true)
    (h : ∀ a', St n w0 (putf m fs d v) bs a' w → K a' w) : o.wp P a w K Q :=
  op_extract hs m ho hd hx (by simpa using hv) hok h
theorem pln (h : o.wp P a w K Q) (hg : o.guard = none := by rfl) : wpO P ops Q o K a w := wpO_plain hg h
theorem obn (hs : St n w0 fs bs a w) (i : Nat) {b : BinOp} {T U : TypeId} {x y : Operand} {vx vy : Value} (v : Value) {d : Nat} (ho : o.op = .binOp b T x y U) (hd : o.dst = some d) (hx : ev fs x = some vx) (hy : ev fs y = some vy) (hr : ∀ w, (binOp b T vx vy).run P w = .ok v w)
    (h : ∀ a', St n w0 (putf (some i) fs d v) bs a' w → K a' w) (hok : okf (some i) fs d n = true := by rfl) (hq : ∀ w, (eqGuard b T x y vx vy).run P w = .ok () w := by exact fun _ => rfl) : o.wp P a w K Q :=
  op_bin hs (some i) ho hd hx hy hq hr hok h
theorem omv (hs : St n w0 fs bs a w) (i : Nat) {x : Operand} {v : Value} {d : Nat} (ho : o.op = .move x) (hd : o.dst = some d) (hx : ev fs x = some v) (h : ∀ a', St n w0 (putf (some i) fs d v) bs a' w → K a' w) (hok : okf (some i) fs d n = true := by rfl) : o.wp P a w K Q := op_move hs (some i) ho hd hx hok h
theorem oas (hs : St n w0 fs bs a w) (i : Nat) {x : Operand} {v : Value} {d : Nat} (ho : o.op = .assign x) (hd : o.dst = some d) (hx : ev fs x = some v) (h : ∀ a', St n w0 (putf (some i) fs d v) bs a' w → K a' w) (hok : okf (some i) fs d n = true := by rfl) : o.wp P a w K Q := op_assign hs (some i) ho hd hx hok h
theorem oldd (hs : St n w0 fs bs a w) (j : Nat) (k : Nat) (v : Value) {t : TypeId} {ag : Bool} {z : Nat} (hu : ∀ w, (isAgg t).run P w = .ok ag w) (hz : ∀ w, (sizeOf t).run P w = .ok z w) {x : Operand} {g i : Nat} {T : TypeId} {cs : List Value} {d : Nat} (ho : o.op = .load t x) (hd : o.dst = some d)
    (hx : ev fs x = some (.pointer (some ⟨g, i, none⟩))) (hb : bs[k]? = some (true, g, T, cs)) (hl : ldv ag z cs i = some v)
    (h : ∀ a', St n w0 (putf (some j) fs d v) bs a' w → K a' w) (hok : okf (some j) fs d n = true := by rfl) : o.wp P a w K Q :=
  op_load hs (some j) k ho hd hx hb hu hz hl hok h
theorem stoo (hs : St n w0 fs bs a w) (k : Nat) (vs : List Value) {t : TypeId} {x y : Operand} {g i z : Nat} {T : TypeId} {cs : List Value} {v : Value} (hz : ∀ w, (sizeOf t).run P w = .ok z w) (ho : o.op = .store t x y) (hd : o.dst = none)
    (hx : ev fs x = some (.pointer (some ⟨g, i, none⟩))) (hy : ev fs y = some v) (hb : bs[k]? = some (true, g, T, cs)) (hv : v.cells = vs.toArray) (hvz : vs.length = z) (h1 : vs.all (·.oneCell') = true)
    (hle : Nat.ble (i + z) cs.length = true) {cs' : List Value} (hw : wr cs i vs = cs') (h : ∀ w', St n w0 fs (bs.set k (true, g, T, cs')) a w' → K a w') : o.wp P a w K Q :=
  op_store hs k ho hd hx hy hb hz hv hvz h1 hle hw h
theorem ldd (hs : St n w0 fs bs a w) (k : Nat) (v : Value) {t : TypeId} {ag : Bool} {z : Nat} (hu : ∀ w, (isAgg t).run P w = .ok ag w) (hz : ∀ w, (sizeOf t).run P w = .ok z w) {x : Operand} {g i : Nat} {T : TypeId} {cs : List Value} {d : Nat} (ho : o.op = .load t x) (hd : o.dst = some d)
    (hx : ev fs x = some (.pointer (some ⟨g, i, none⟩))) (hb : bs[k]? = some (true, g, T, cs)) (hl : ldv ag z cs i = some v)
    (h : ∀ a', St n w0 (putf none fs d v) bs a' w → wpList P ops Q rest a' w) (hok : okf none fs d n = true := by rfl) (hg : o.guard = none := by rfl) : wpList P ops Q (o :: rest) a w :=
  stp (op_load hs none k ho hd hx hb hu hz hl hok h) hg
def rgn : Nat → Nat → List Nat
  | _, 0 => []
  | i, k + 1 => i :: rgn (i + 1) k
end
abbrev ptA (g i : Nat) : Value := .pointer (some ⟨g, i, none⟩)
abbrev nu8 (x : Nat) : Value := .int .u8 (x : Int)
abbrev nu32 (x : Nat) : Value := .int .u32 (x : Int)
abbrev nu64 (x : Nat) : Value := .int .u64 (x : Int)
abbrev ni64 (x : Nat) : Value := .int .i64 (x : Int)
end Go.Proofs.YtejbajgpiecjcaaGreat

/- Whole numbers in the walk: each operation on integers that are natural numbers; rows of integers as tables; slices that the call made. -/
namespace Go.Proofs.YtejbajgpiecjcaaGreat
open Go.RowKit
def lid : IntKind → Nat
  | .i8 => 128 | .i16 => 32768 | .i32 => 2147483648 | .i64 => 9223372036854775808
  | .u8 => 256 | .u16 => 65536 | .u32 => 4294967296 | .u64 => 18446744073709551616
theorem wrapN {k : IntKind} {n : Nat} (h : n < lid k) : k.wrap (n : Int) = n := by
  cases k <;> simp only [lid] at h <;> simp [IntKind.wrap, IntKind.bits, IntKind.signed] <;> omega
def usg : IntKind → Bool
  | .u8 | .u16 | .u32 | .u64 => true
  | _ => false
theorem wrapM {k : IntKind} (hu : usg k = true) (n : Nat) : k.wrap (n : Int) = ((n % lid k : Nat) : Int) := by
  cases k <;> simp [usg] at hu <;> simp [IntKind.wrap, IntKind.bits, IntKind.signed, lid]
theorem lid_bits {k : IntKind} (hu : usg k = true) : lid k = 2 ^ k.bits := by cases k <;> simp [usg] at hu <;> rfl
section
variable {P : Program} {k : IntKind} {T : TypeId} {x y z : Nat}
theorem bin_addN (h : x + y = z) (hb : z < lid k) (w : World) : (binOp .add T (.int k (x : Int)) (.int k (y : Int))).run P w = .ok (.int k (z : Int)) w := by
  have : (x : Int) + y = (z : Int) := by omega
  simp [binOp, Op.intArith, this, wrapN hb]
theorem bin_subN (h : x = y + z) (hb : z < lid k) (w : World) : (binOp .sub T (.int k (x : Int)) (.int k (y : Int))).run P w = .ok (.int k (z : Int)) w := by
  have : (x : Int) - y = (z : Int) := by omega
  simp [binOp, Op.intArith, this, wrapN hb]
theorem bin_mulN (h : x * y = z) (hb : z < lid k) (w : World) : (binOp .mul T (.int k (x : Int)) (.int k (y : Int))).run P w = .ok (.int k (z : Int)) w := by
  have : (x : Int) * y = (z : Int) := by rw [← h]; simp
  simp [binOp, Op.intArith, this, wrapN hb]
theorem bin_addM (hu : usg k = true) (h : (x + y) % lid k = z) (w : World) : (binOp .add T (.int k (x : Int)) (.int k (y : Int))).run P w = .ok (.int k (z : Int)) w := by
  have : (x : Int) + y = ((x + y : Nat) : Int) := by simp
  simp only [binOp, Op.intArith, this, wrapM hu, h]
  simp
theorem bin_mulM (hu : usg k = true) (h : (x * y) % lid k = z) (w : World) : (binOp .mul T (.int k (x : Int)) (.int k (y : Int))).run P w = .ok (.int k (z : Int)) w := by
  have : (x : Int) * y = ((x * y : Nat) : Int) := by simp
  simp only [binOp, Op.intArith, this, wrapM hu, h]
  simp
theorem bin_subM (hu : usg k = true) (h : (x + lid k - y) % lid k = z) (hy : y ≤ lid k) (w : World) : (binOp .sub T (.int k (x : Int)) (.int k (y : Int))).run P w = .ok (.int k (z : Int)) w := by
  have e : k.wrap ((x : Int) - y) = (z : Int) := by
    rw [← h]
    cases k <;> simp [usg] at hu <;> simp only [lid] at hy ⊢ <;> simp [IntKind.wrap, IntKind.bits, IntKind.signed] <;> omega
  simp [binOp, Op.intArith, e]
theorem bin_quoN (h : x / y = z) (hy : y ≠ 0) (hx : x < lid k) (w : World) : (binOp .quo T (.int k (x : Int)) (.int k (y : Int))).run P w = .ok (.int k (z : Int)) w := by
  have e : ((x : Int).tdiv y) = (z : Int) := by rw [← h]; rfl
  have hz : z < lid k := by rw [← h]; exact Nat.lt_of_le_of_lt (Nat.div_le_self _ _) hx
  simp [binOp, Op.intDiv, hy, e, wrapN hz]
theorem bin_remN (h : x % y = z) (hy : y ≠ 0) (w : World) : (binOp .rem T (.int k (x : Int)) (.int k (y : Int))).run P w = .ok (.int k (z : Int)) w := by
  have e : ((x : Int).tmod y) = (z : Int) := by rw [← h]; rfl
  simp [binOp, Op.intDiv, hy, e]
theorem bin_shrN {yk : IntKind} (h : x / 2 ^ y = z) (hx : x < 2 ^ k.bits) (w : World) : (binOp .shr T (.int k (x : Int)) (.int yk (y : Int))).run P w = .ok (.int k (z : Int)) w := by
  have e : ((x : Int).fdiv (2 ^ (min y k.bits))) = (z : Int) := by
    have e2 : x / 2 ^ (min y k.bits) = z := by
      rcases Nat.le_total y k.bits with hle | hle
      · rw [Nat.min_eq_left hle, h]
      · rw [Nat.min_eq_right hle, Nat.div_eq_of_lt hx, ← h, Nat.div_eq_of_lt (Nat.lt_of_lt_of_le hx (Nat.pow_le_pow_right (by omega) hle))]
    rw [← e2, Int.fdiv_eq_ediv_of_nonneg _ (by exact_mod_cast Nat.zero_le _)]
    simp
  have hn : ¬ ((y : Int) < 0) := by omega
  simp [binOp, Op.shift, hn, e]
theorem bin_shlM {yk : IntKind} (hu : usg k = true) (h : x * 2 ^ y % lid k = z) (w : World) : (binOp .shl T (.int k (x : Int)) (.int yk (y : Int))).run P w = .ok (.int k (z : Int)) w := by
  have e : k.wrap ((x : Int) * 2 ^ (min y k.bits)) = (z : Int) := by
    have e1 : (x : Int) * 2 ^ (min y k.bits) = ((x * 2 ^ (min y k.bits) : Nat) : Int) := by simp
    rw [e1, wrapM hu, ← h]
    congr 1
    rcases Nat.le_total y k.bits with hle | hle
    · rw [Nat.min_eq_left hle]
    · obtain ⟨d, rfl⟩ : ∃ d, y = k.bits + d := ⟨y - k.bits, by omega⟩
      rw [Nat.min_eq_right hle, lid_bits hu, Nat.pow_add, ← Nat.mul_assoc, Nat.mul_right_comm, Nat.mul_mod_left, Nat.mul_mod_left]
  have hn : ¬ ((y : Int) < 0) := by omega
  simp [binOp, Op.shift, hn, e]
theorem ofInt_nat (n : Nat) (b : Nat) (h : n < 2 ^ b) : (BitVec.ofInt b (n : Int)).toNat = n := by
  rw [BitVec.ofInt_natCast, BitVec.toNat_ofNat, Nat.mod_eq_of_lt h]
theorem bin_andN (h : x &&& y = z) (hx : x < 2 ^ k.bits) (hy : y < 2 ^ k.bits) (hb : z < lid k) (w : World) : (binOp .and T (.int k (x : Int)) (.int k (y : Int))).run P w = .ok (.int k (z : Int)) w := by
  have e : ((BitVec.ofInt k.bits (x : Int)) &&& (BitVec.ofInt k.bits (y : Int))).toNat = z := by
    rw [BitVec.toNat_and, ofInt_nat _ _ hx, ofInt_nat _ _ hy, h]
  simp only [binOp, Op.intBits, e, wrapN hb]
  simp
theorem bin_orN (h : x ||| y = z) (hx : x < 2 ^ k.bits) (hy : y < 2 ^ k.bits) (hb : z < lid k) (w : World) : (binOp .or T (.int k (x : Int)) (.int k (y : Int))).run P w = .ok (.int k (z : Int)) w := by
  have e : ((BitVec.ofInt k.bits (x : Int)) ||| (BitVec.ofInt k.bits (y : Int))).toNat = z := by
    rw [BitVec.toNat_or, ofInt_nat _ _ hx, ofInt_nat _ _ hy, h]
  simp only [binOp, Op.intBits, e, wrapN hb]
  simp
theorem bin_lssN (w : World) : (binOp .lss T (.int k (x : Int)) (.int k (y : Int))).run P w = .ok (.bool (decide (x < y))) w := by simp [binOp, Op.intCmp]
theorem bin_gtrN (w : World) : (binOp .gtr T (.int k (x : Int)) (.int k (y : Int))).run P w = .ok (.bool (decide (y < x))) w := by simp [binOp, Op.intCmp]
theorem bin_geqN (w : World) : (binOp .geq T (.int k (x : Int)) (.int k (y : Int))).run P w = .ok (.bool (decide (y ≤ x))) w := by simp [binOp, Op.intCmp]
theorem bin_eqlN (w : World) : (binOp .eql T (.int k (x : Int)) (.int k (y : Int))).run P w = .ok (.bool (decide (x = y))) w := by
  have : ((x : Int) == (y : Int)) = decide (x = y) := by rw [Bool.eq_iff_iff]; simp only [beq_iff_eq, decide_eq_true_eq]; omega
  simp [binOp, Op.intCmp, this]
theorem bin_neqN (w : World) : (binOp .neq T (.int k (x : Int)) (.int k (y : Int))).run P w = .ok (.bool (decide (x ≠ y))) w := by
  have : ((x : Int) != (y : Int)) = decide (x ≠ y) := by rw [Bool.eq_iff_iff]; simp only [bne_iff_ne, decide_eq_true_eq]; omega
  simp [binOp, Op.intCmp, this]
theorem dT {p : Prop} [Decidable p] {r : Result Value} {w : World} (h : p) (hr : r = .ok (.bool (decide p)) w) : r = .ok (.bool true) w := by rw [hr, decide_eq_true h]
theorem dF {p : Prop} [Decidable p] {r : Result Value} {w : World} (h : ¬ p) (hr : r = .ok (.bool (decide p)) w) : r = .ok (.bool false) w := by rw [hr, decide_eq_false h]
theorem bin_subP (hx : x < 9223372036854775808) (w : World) : (binOp .sub T (.int .i64 (x : Int)) (.int .i64 1)).run P w = .ok (.int .i64 ((x : Int) - 1)) w := by
  have e : IntKind.i64.wrap ((x : Int) - 1) = (x : Int) - 1 := by simp [IntKind.wrap, IntKind.bits, IntKind.signed]; omega
  simp [binOp, Op.intArith, e]
theorem bin_geqP (w : World) : (binOp .geq T (.int .i64 ((x : Int) - 1)) (.int .i64 0)).run P w = .ok (.bool (decide (1 ≤ x))) w := by
  have e : decide ((x : Int) - 1 ≥ 0) = decide (1 ≤ x) := by rw [Bool.eq_iff_iff]; simp only [decide_eq_true_eq]; omega
  simp only [binOp, Op.intCmp, e]
  simp
theorem pre_nat {x : Nat} (h : 1 ≤ x) : Value.int .i64 ((x : Int) - 1) = .int .i64 ((x - 1 : Nat) : Int) := by
  rw [show ((x : Int) - 1) = ((x - 1 : Nat) : Int) by omega]
theorem conv_N {S D : TypeId} {k' : IntKind} (hs : P.underlying S = some (.int k)) (hd : P.underlying D = some (.int k')) (hx : x < lid k') (w : World) : (convert S D (.int k (x : Int))).run P w = .ok (.int k' (x : Int)) w := by
  simp [convert, run_underlying hs, run_underlying hd, Sem.run_bind, Result.andThen, Conv.intToInt, wrapN hx]
theorem conv_M {S D : TypeId} {k' : IntKind} (hu : usg k' = true) (hs : P.underlying S = some (.int k)) (hd : P.underlying D = some (.int k')) (h : x % lid k' = z) (w : World) : (convert S D (.int k (x : Int))).run P w = .ok (.int k' (z : Int)) w := by
  simp [convert, run_underlying hs, run_underlying hd, Sem.run_bind, Result.andThen, Conv.intToInt, wrapM hu, h]
end
def tab (k : IntKind) (n : Nat) (f : Nat → Nat) : List Value := (List.range n).map fun i => .int k (f i : Int)
theorem tab_length (k : IntKind) (n : Nat) (f : Nat → Nat) : (tab k n f).length = n := by simp [tab]
theorem tab_get {k : IntKind} {n : Nat} {f : Nat → Nat} {j : Nat} (h : j < n) : (tab k n f)[j]? = some (.int k (f j : Int)) := by simp [tab, h]
theorem tabs_get {k : IntKind} {n : Nat} {f : Nat → Nat} {sp : List Value} {j : Nat} (h : j < n) : (tab k n f ++ sp)[j]? = some (.int k (f j : Int)) := by
  rw [List.getElem?_append_left (by rw [tab_length]; exact h), tab_get h]
def upn (f : Nat → Nat) (j x : Nat) (i : Nat) : Nat := if i = j then x else f i
theorem tab_set {k : IntKind} {n : Nat} {f : Nat → Nat} {j x : Nat} : (tab k n f).set j (.int k (x : Int)) = tab k n (upn f j x) := by
  apply List.ext_getElem?
  intro i
  rw [List.getElem?_set]
  split
  · rename_i hji
    subst hji
    split
    · rename_i hlt; rw [tab_get (by simpa [tab_length] using hlt)]; simp [upn]
    · rename_i hlt; rw [List.getElem?_eq_none (by simpa [tab_length] using hlt)]
  · rename_i hji
    by_cases hi : i < n
    · rw [tab_get hi, tab_get hi]; simp [upn, show ¬ i = j from fun h => hji h.symm]
    · rw [List.getElem?_eq_none (by simpa [tab_length] using hi), List.getElem?_eq_none (by simpa [tab_length] using hi)]
theorem tabs_set {k : IntKind} {n : Nat} {f : Nat → Nat} {sp : List Value} {j x : Nat} (h : j < n) : (tab k n f ++ sp).set j (.int k (x : Int)) = tab k n (upn f j x) ++ sp := by
  rw [List.set_append_left _ _ (by rw [tab_length]; exact h), tab_set]
theorem tab_congr {k : IntKind} {n : Nat} {f g : Nat → Nat} (h : ∀ j, j < n → f j = g j) : tab k n f = tab k n g := by
  unfold tab
  apply List.map_congr_left
  intro i hi
  rw [h i (by simpa using hi)]
theorem tab_snoc {k : IntKind} {n : Nat} {f : Nat → Nat} {x : Nat} (h : f n = x) : tab k n f ++ [.int k (x : Int)] = tab k (n + 1) f := by
  unfold tab; rw [List.range_succ, List.map_append]; simp [h]
theorem tab_le {k : IntKind} {n : Nat} {f : Nat → Nat} {j : Nat} (h : j < n) : Nat.ble (j + 1) (tab k n f).length = true := Nat.ble_eq_true_of_le (by rw [tab_length]; exact h)
theorem tabs_le {k : IntKind} {n : Nat} {f : Nat → Nat} {sp : List Value} {j : Nat} (h : j < n) : Nat.ble (j + 1) (tab k n f ++ sp).length = true := Nat.ble_eq_true_of_le (by rw [List.length_append, tab_length]; omega)
theorem tab_one (k : IntKind) (n : Nat) (f : Nat → Nat) : (tab k n f).all (·.oneCell') = true := by simp [tab, Value.oneCell']
section
variable {P : Program} {Q : Exit → Act → World → Prop} {K : Act → World → Prop} {a : Act} {w : World} {o : Oper} {n : Nat} {w0 : Bs} {fs : List Sl} {bs : List Bl}
theorem op_idxS (hs : St n w0 fs bs a w) (m : Option Nat) {T E : TypeId} {x y : Operand} {g i z N c : Nat} {k : IntKind} {j : Nat} {d : Nat} (ho : o.op = .indexAddr T x y) (hd : o.dst = some d) (hx : ev fs x = some (.slice (some ⟨g, i, none⟩) N c)) (hy : ev fs y = some (.int k (j : Int)))
    (hu : P.underlying T = some (.slice E)) (hz : ∀ w, (sizeOf E).run P w = .ok z w) (hj : j < N) {off : Nat} (hoff : i + j * z = off) (hok : okf m fs d n = true)
    (h : ∀ a', St n w0 (putf m fs d (.pointer (some ⟨g, off, none⟩))) bs a' w → K a' w) : o.wp P a w K Q :=
  op_val hs m hd hok (by
    subst hoff
    unfold execOp
    rw [ho]
    have h1 : (0 : Int) ≤ (j : Int) ∧ (j : Int) < (N : Int) := ⟨by omega, by omega⟩
    simp [hs.ev hx, hs.ev hy, Instr.indexAt, asIntOf, Sem.run_bind, run_underlying hu, Result.andThen, hz, h1, hj, Addr.add_mid]) h
theorem op_made (hs : St n w0 fs bs a w) (m mb : Option Nat) {v : Nat → Value} {T : TypeId} {cs : List Value} {d : Nat} (hd : o.dst = some d) (hr : (execOp a.eval o).run P w = .ok (.value (v w.heap.size)) (w.alloc (.cells cs.toArray T)))
    (hokb : okb mb bs = true) (hok : okf m fs d n = true) (h : ∀ g a' w', St n w0 (putf m fs d (v g)) (putb mb bs (true, g, T, cs)) a' w' → K a' w') : o.wp P a w K Q := by
  unfold Oper.wp
  rw [hr, Oper.upon_value, hd]
  exact h _ _ _ ((hs.add hokb ((Below.refl _ _).alloc (Nat.le_refl _) _) (Nat.le_refl _) (heap_alloc_at w _)).put hok _)
theorem op_makeSlice (hs : St n w0 fs bs a w) (m mb : Option Nat) {T E : TypeId} {x y : Operand} {ti : TypeInfo} {z : Value} {l c : Nat} {kl kc : IntKind} {cs : List Value} {d : Nat} (ho : o.op = .makeSlice T x y) (hd : o.dst = some d) (hx : ev fs x = some (.int kl (l : Int))) (hy : ev fs y = some (.int kc (c : Int)))
    (hu : P.underlying T = some (.slice E)) (hi : P.info? E = some ti) (hz : ti.zero = some z) (hlc : l ≤ c) (hc16 : c * ti.size ≤ 16777216) (hby : ti.bytes * c ≤ 281474976710656) (hc63 : c ≤ 9223372036854775807) (hcs : madeCells z.cells (c * ti.size) = cs.toArray)
    (hokb : okb mb bs = true) (hok : okf m fs d n = true) (h : ∀ g a' w', St n w0 (putf m fs d (.slice (some ⟨g, 0, none⟩) l c)) (putb mb bs (true, g, E, cs)) a' w' → K a' w') : o.wp P a w K Q :=
  op_made hs m mb (v := fun g => .slice (some ⟨g, 0, none⟩) l c) hd (by
    have := run_makeSlice (P := P) w T E ti z hu hi hz kl kc l c (by omega) (by omega) (by rw [Int.toNat_natCast]; exact hc16) (by rw [← Int.natCast_mul]; omega) (by omega)
    unfold execOp
    rw [ho]
    simp only [hs.ev hx, hs.ev hy, Sem.run_bind, this, Result.andThen_ok, Int.toNat_natCast, hcs]
    rfl) hokb hok h
theorem op_buildSlice (hs : St n w0 fs bs a w) (m mb : Option Nat) {T E : TypeId} {ps : Array (Nat × Operand)} {l : Nat} {qs : List (Nat × Value)} {cs : List Value} {d : Nat} (ho : o.op = .buildSlice T l ps) (hd : o.dst = some d)
    (hx : evs fs (ps.toList.map (·.2)) = some (qs.map (·.2))) (hi : ps.toList.map (·.1) = qs.map (·.1))
    (hr : ∀ w, (Instr.buildSlice T l qs.toArray).run P w = .ok (.slice (some ⟨w.heap.size, 0, none⟩) l l) (w.alloc (.cells cs.toArray E)))
    (hokb : okb mb bs = true) (hok : okf m fs d n = true) (h : ∀ g a' w', St n w0 (putf m fs d (.slice (some ⟨g, 0, none⟩) l l)) (putb mb bs (true, g, E, cs)) a' w' → K a' w') : o.wp P a w K Q := by
  have hq : ps.map (fun (p : Nat × Operand) => (p.1, a.eval p.2)) = qs.toArray := by
    have h1 := hs.evs hx
    apply Array.ext'
    simp only [Array.toList_map]
    rw [List.map_map] at h1
    apply List.ext_getElem?
    intro j
    have e1 := congrArg (·[j]?) h1
    have e2 := congrArg (·[j]?) hi
    simp only [List.getElem?_map] at e1 e2 ⊢
    cases hp : ps.toList[j]? with
    | none =>
      rw [hp] at e1
      cases hq : qs[j]? with
      | none => rfl
      | some q => rw [hq] at e1; simp at e1
    | some p =>
      rw [hp] at e1 e2
      cases hq : qs[j]? with
      | none => rw [hq] at e1; simp at e1
      | some q =>
        rw [hq] at e1 e2
        simp at e1 e2
        simp [e1, e2]
  refine op_made hs m mb (v := fun g => .slice (some ⟨g, 0, none⟩) l l) hd ?_ hokb hok h
  unfold execOp
  rw [ho]
  simp only [hq]
  rw [Sem.run_bind, hr]
  rfl
def Made (w : World) (T : TypeId) (v : Nat → Nat → Value) (xs : List Value) (e : Ending) (w' : World) : Prop :=
  ∃ g sp, e = .returned (v g (xs ++ sp).length) ∧ w.heap.size ≤ g ∧ w'.heap[g]? = some (.cells (xs ++ sp).toArray T (0, 0)) ∧ Below w.heap.size w w'
theorem op_callM {F : FuncId} (hs : St n w0 fs bs a w) (m mb : Option Nat) {f : Operand} {xs : Array Operand} {ts : Array TypeId} {vs : List Value} {T : TypeId} {v : Nat → Nat → Value} {cs : List Value} {d : Nat} (ho : o.op = .call ⟨.value f, xs, ts⟩) (hd : o.dst = some d)
    (hf : ev fs f = some (.func (.func F) #[] #[])) (hx : evs fs xs.toList = some vs) (hcl : ∀ w, (callFunc F vs.toArray).run P w = .ok (.enter F vs.toArray) w)
    (hc : ∀ w, Calls P F vs.toArray w (Made w T v cs)) (hokb : okb mb bs = true) (hok : okf m fs d n = true)
    (h : ∀ g sp a' w', St n w0 (putf m fs d (v g (cs ++ sp).length)) (putb mb bs (true, g, T, cs ++ sp)) a' w' → K a' w') : o.wp P a w K Q := by
  have hm : xs.map a.eval = vs.toArray := by
    have := hs.evs hx
    rw [← this, ← Array.toList_map]
  unfold Oper.wp execOp
  rw [ho]
  simp only [resolve, hs.ev hf, hm, Deferred.ofValue, Sem.run_bind, Sem.run_pure, Result.andThen_ok, invoke, Array.empty_append, Array.append_empty, hcl, Oper.upon_enter, hd]
  refine (hc w).mono ?_
  rintro e w' ⟨g, sp, rfl, hg, hb, hbl⟩
  exact h _ _ _ _ ((hs.add hokb hbl hg hb).put hok _)
theorem op_callW {F : FuncId} (hs : St n w0 fs bs a w) (m : Option Nat) {f : Operand} {xs : Array Operand} {ts : Array TypeId} {vs : List Value} {v : Value} {d : Nat} (ho : o.op = .call ⟨.value f, xs, ts⟩) (hd : o.dst = some d)
    (hf : ev fs f = some (.func (.func F) #[] #[])) (hx : evs fs xs.toList = some vs) (hcl : ∀ w, (callFunc F vs.toArray).run P w = .ok (.enter F vs.toArray) w)
    (hc : St n w0 fs bs a w → Calls P F vs.toArray w fun e w' => e = .returned v ∧ Below w.heap.size w w') (hok : okf m fs d n = true)
    (h : ∀ a' w', St n w0 (putf m fs d v) bs a' w' → K a' w') : o.wp P a w K Q := by
  have hm : xs.map a.eval = vs.toArray := by
    have := hs.evs hx
    rw [← this, ← Array.toList_map]
  unfold Oper.wp execOp
  rw [ho]
  simp only [resolve, hs.ev hf, hm, Deferred.ofValue, Sem.run_bind, Sem.run_pure, Result.andThen_ok, invoke, Array.empty_append, Array.append_empty, hcl, Oper.upon_enter, hd]
  refine (hc hs).mono ?_
  rintro e w' ⟨rfl, hb⟩
  exact h _ _ ((hs.grow hb).put hok v)
theorem op_append (hs : St n w0 fs bs a w) (m : Option Nat) (k : Nat) {x y : Operand} {T E : TypeId} {ti : TypeInfo} {z : Value} {g c mm c2 : Nat} {ad : Addr} {l size bytes : Nat} {xs sp news : List Value} {d : Nat}
    (ho : o.op = .call ⟨.builtin .append, #[x, y], #[T, T]⟩) (hd : o.dst = some d) (hx : ev fs x = some (.slice (some ⟨g, 0, none⟩) l c)) (hy : ev fs y = some (.slice (some ad) mm c2)) (hb : bs[k]? = some (true, g, E, xs ++ sp))
    (hu : P.underlying T = some (.slice E)) (hi : P.info? E = some ti) (hz : ti.zero = some z) (hsz : ti.size = size) (hby : ti.bytes = bytes) (hzs : z.cells.size = size) (hs0 : 0 < size)
    (hxl : xs.length = l * size) (hcl : (xs ++ sp).length = c * size) (hcm : c ≤ maxLen) (hlen : news.length = mm * size) (hnews : ∀ j u, news[j]? = some u → w.cell? (ad.add j) = some u) (h1 : ∀ u ∈ news, u.oneCell' = true)
    (hm0 : 0 < mm) (h63 : l + mm ≤ maxLen) (hbt : (l + mm) * bytes ≤ 140737488355328) (hok : okf m fs d n = true)
    (h : ∀ g' c' sp' a' w', St n w0 (putf m fs d (.slice (some ⟨g', 0, none⟩) (l + mm) c')) (bs.set k (true, g', E, xs ++ news ++ sp')) a' w' → (xs ++ news ++ sp').length = c' * size → c' ≤ maxLen → K a' w') : o.wp P a w K Q := by
  have hbk := hs.blks k _ hb rfl
  have hown : w.ownsRow 0 E size (.slice (some ⟨g, 0, none⟩) l c) l xs := by
    refine ⟨hxl, .inr ⟨g, c, (xs ++ sp).toArray, rfl, Nat.zero_le _, hbk.1, ?_, hcm, by simpa using hcl, by rw [← hxl]; simp⟩⟩
    have : l * size ≤ c * size := by rw [← hcl, ← hxl]; simp
    exact Nat.le_of_mul_le_mul_right this hs0
  refine wp_append_lies w x y T ho 0 E ti z size bytes hu hi hz hsz hby hzs hs0 _ l xs (hs.ev hx) hown ad mm c2 news (hs.ev hy) hlen hnews h1 hm0 h63 hbt (Nat.zero_le _) _ rfl ?_
  intro g' c' w' ho' hg' hat hlt
  rcases ho'.2 with ⟨hv, _⟩ | ⟨g2, cap, cur, hv, hge, hh, hle, hcm', hcs, htk⟩
  · cases hv
  · obtain ⟨rfl, rfl⟩ : g' = g2 ∧ c' = cap := by simpa using hv
    obtain ⟨sp', hcur⟩ : ∃ sp', cur.toList = xs ++ news ++ sp' := ⟨cur.toList.drop ((l + mm) * size), by rw [← htk, List.take_append_drop]⟩
    obtain rfl : cur = (xs ++ news ++ sp').toArray := by rw [← hcur]
    rw [hd]
    refine h g' c' sp' _ w' ?_ (by simpa using hcs) hcm'
    refine St.put ⟨hs.size, hs.defers, hs.slots, ?_, ?_, hs.below.grown hg' hs.below.size (fun r hr => ?_), fun p hp => ⟨?_, ?_⟩, fun i e he h1 => ?_⟩ hok _
    · intro i e he h1
      rw [List.getElem?_set] at he
      split at he
      · split at he
        · obtain rfl := Option.some.inj he
          refine ⟨hh, ?_⟩
          rcases hat with hat | hat
          · have : g = g' := by simpa [Value.ownBlock] using hat
            exact this ▸ hbk.2
          · exact .inl (by have := hs.below.size; show w0.w.heap.size ≤ g'; omega)
        · cases he
      · rename_i hne
        have hold := hs.blks i e he h1
        have hneg : e.2.1 ≠ g := hs.apart i k e (true, g, E, xs ++ sp) (fun h => hne h.symm) he hb h1 rfl
        exact ⟨(hg'.block _ (hs.lt he h1) (by simpa [Value.ownBlock] using hneg)).trans hold.1, hold.2⟩
    · have fresh : ∀ i (e : Bl), i ≠ k → bs[i]? = some e → e.1 = true → e.2.1 ≠ g' := by
        intro i e hik he h1 heq
        rcases hat with hat | hat
        · have : g = g' := by simpa [Value.ownBlock] using hat
          exact hs.apart i k e (true, g, E, xs ++ sp) hik he hb h1 rfl (heq.trans this.symm)
        · have := hs.lt he h1
          omega
      intro i j e e' hij he he' h1 h1'
      rw [List.getElem?_set] at he he'
      split at he
      · rename_i hi
        split at he
        · obtain rfl := Option.some.inj he
          split at he'
          · rename_i hj; exact absurd (hi.symm.trans hj) hij
          · rename_i hj; exact (fresh j e' (fun h => hj h.symm) he' h1').symm
        · cases he
      · rename_i hi
        split at he'
        · split at he'
          · obtain rfl := Option.some.inj he'
            exact fresh i e (fun h => hi h.symm) he h1
          · cases he'
        · exact hs.apart i j e e' hij he he' h1 h1'
    · have : r = g := by simpa [Value.ownBlock] using hr.symm
      rw [this]
      exact hbk.2
    · have hneg : p.1 ≠ g := fun e => (hs.frz p hp).2 k (true, g, E, xs ++ sp) hb rfl e.symm
      exact (hg'.block _ (hs.flt hp) (by simpa [Value.ownBlock] using hneg)).trans (hs.frz p hp).1
    · intro i e he h1
      rw [List.getElem?_set] at he
      split at he
      · split at he
        · obtain rfl := Option.some.inj he
          rcases hat with hat | hat
          · have : g = g' := by simpa [Value.ownBlock] using hat
            have h2 := (hs.frz p hp).2 k (true, g, E, xs ++ sp) hb rfl
            show g' ≠ p.1
            rw [← this]; exact h2
          · have := hs.flt hp
            show g' ≠ p.1
            omega
        · cases he
      · exact (hs.frz p hp).2 i e he h1
    · refine Fz.ok_mono (fun _ _ h => h) (fun y hy hlt => ?_) (hs.fz i e he h1)
      have hne := hy.2.1 k (true, g, E, xs ++ sp) hb rfl
      refine ⟨⟨hy.1, fun j b hb1 hb2 => ?_, hy.2.2⟩, hg'.block y hlt (fun e => hne (by simpa [Value.ownBlock] using e.symm))⟩
      rw [List.getElem?_set] at hb1
      split at hb1
      · split at hb1
        · obtain rfl := Option.some.inj hb1
          rcases hat with hat | hat
          · have : g = g' := by simpa [Value.ownBlock] using hat
            show g' ≠ y
            rw [← this]; exact hne
          · show g' ≠ y
            omega
        · cases hb1
      · exact hy.2.1 j b hb1 hb2
theorem St.news (hs : St n w0 fs bs a w) {k g i : Nat} {T : TypeId} {cs : List Value} (hb : bs[k]? = some (true, g, T, cs)) (l : Nat) : ∀ (j : Nat) (u : Value), ((cs.drop i).take l)[j]? = some u → w.cell? ((⟨g, i, none⟩ : Addr).add j) = some u := by
  intro j u hu
  rw [Addr.add_mid, cell_of_row w g _ _ T _ (hs.blk hb)]
  rw [List.getElem?_take] at hu
  split at hu
  · rw [List.getElem?_drop] at hu; simpa using hu
  · cases hu
end
end Go.Proofs.YtejbajgpiecjcaaGreat

/- Slices: literals, appends, lengths, rows that were there ahead of the call, arrays as tables. -/
namespace Go.Proofs.YtejbajgpiecjcaaGreat
open Go.RowKit
def Inf (P : Program) (E : TypeId) (z : Value) (size bytes : Nat) : Prop := ∃ i, P.info? E = some i ∧ i.zero = some z ∧ i.size = size ∧ i.bytes = bytes
theorem inf_of {P : Program} {E : TypeId} {z : Value} {size bytes : Nat} (h : (P.info? E).map (fun i => (i.zero, i.size, i.bytes)) = some (some z, size, bytes)) : Inf P E z size bytes := by
  cases hi : P.info? E with
  | none => rw [hi] at h; cases h
  | some i =>
    rw [hi] at h
    simp only [Option.map_some, Option.some.injEq, Prod.mk.injEq] at h
    exact ⟨i, hi, h.1, h.2.1, h.2.2⟩
section
variable {P : Program} {Q : Exit → Act → World → Prop} {K : Act → World → Prop} {a : Act} {w : World} {o : Oper} {n : Nat} {w0 : Bs} {fs : List Sl} {bs : List Bl}
theorem op_bs0 (hs : St n w0 fs bs a w) (m mb : Option Nat) {T E : TypeId} {z : Value} {size bytes : Nat} {d : Nat} (ho : o.op = .buildSlice T 0 #[]) (hd : o.dst = some d) (hu : P.underlying T = some (.slice E)) (hi : Inf P E z size bytes)
    (hokb : okb mb bs = true) (hok : okf m fs d n = true) (h : ∀ g a' w', St n w0 (putf m fs d (.slice (some ⟨g, 0, none⟩) 0 0)) (putb mb bs (true, g, E, [])) a' w' → K a' w') : o.wp P a w K Q := by
  obtain ⟨i, hi, _, _, _⟩ := hi
  refine op_made hs m mb (v := fun g => .slice (some ⟨g, 0, none⟩) 0 0) hd ?_ hokb hok h
  unfold execOp
  rw [ho]
  simp [Instr.buildSlice, run_underlying hu, sizeOf, typeInfo, hi, newRow, Instr.fill, Sem.run_bind, Result.andThen, show Array.range 0 = #[] from Array.ext' (by simp)]
theorem op_bs1 (hs : St n w0 fs bs a w) (m mb : Option Nat) {T E : TypeId} {x : Operand} {z v : Value} {bytes : Nat} {d : Nat} (ho : o.op = .buildSlice T 1 #[(0, x)]) (hd : o.dst = some d) (hx : ev fs x = some v) (hv : v.cells = #[v]) (hu : P.underlying T = some (.slice E)) (hi : Inf P E z 1 bytes)
    (hokb : okb mb bs = true) (hok : okf m fs d n = true) (h : ∀ g a' w', St n w0 (putf m fs d (.slice (some ⟨g, 0, none⟩) 1 1)) (putb mb bs (true, g, E, [v])) a' w' → K a' w') : o.wp P a w K Q := by
  obtain ⟨i, hi, hz, hs1, _⟩ := hi
  refine op_buildSlice hs m mb (l := 1) (qs := [(0, v)]) (cs := [v]) ho hd ?_ rfl (fun w => ?_) hokb hok h
  · simp [evs, hx]
  · refine run_buildSlice w T E 1 _ _ i z hu hi hz ?_ ?_ ?_
    · rw [hs1]; decide
    · rw [hs1]; decide
    · rw [hs1]
      simp [Instr.fill, hv, show Array.range 1 = #[0] from Array.ext' (by simp [List.range_succ])]
theorem op_makeS (hs : St n w0 fs bs a w) (m mb : Option Nat) {T E : TypeId} {x y : Operand} {κ : IntKind} {bytes l : Nat} {kl kc : IntKind} {d : Nat} (ho : o.op = .makeSlice T x y) (hd : o.dst = some d) (hx : ev fs x = some (.int kl (l : Int))) (hy : ev fs y = some (.int kc (l : Int)))
    (hu : P.underlying T = some (.slice E)) (hi : Inf P E (.int κ 0) 1 bytes) (hl : l ≤ 1000000) (hby : bytes ≤ 8)
    (hokb : okb mb bs = true) (hok : okf m fs d n = true) (h : ∀ g a' w', St n w0 (putf m fs d (.slice (some ⟨g, 0, none⟩) l l)) (putb mb bs (true, g, E, tab κ l fun _ => 0)) a' w' → K a' w') : o.wp P a w K Q := by
  obtain ⟨i, hi, hz, hs1, hb1⟩ := hi
  refine op_makeSlice hs m mb (cs := tab κ l fun _ => 0) ho hd hx hy hu hi hz (Nat.le_refl _) ?_ ?_ ?_ ?_ hokb hok h
  · rw [hs1]; omega
  · rw [hb1]
    have : bytes * l ≤ 8 * 1000000 := Nat.mul_le_mul hby hl
    omega
  · omega
  · rw [hs1]
    apply Array.ext_getElem?
    intro j
    simp only [madeCells, tab]
    by_cases hj : j < l
    · have h1 : j % 1 = 0 := Nat.mod_one j
      simp [hj, Value.cells, h1]
    · simp [hj, Value.cells]
theorem blt_len {ty T E : TypeId} {ad : Option Addr} {l c : Nat} (hu : P.underlying T = some (.slice E)) : ∀ cs w, (builtin .len #[T] ty cs [Value.slice ad l c].toArray).run P w = .ok (.value (.int .i64 (l : Int))) w := by
  intro cs w
  simp [builtin, Builtin.len_, run_underlying hu, Sem.run_bind, Result.andThen, goInt]
section
variable {T : TypeId} {k : IntKind} {x y : Int}
theorem bin_leqI (w : World) : (binOp .leq T (.int k x) (.int k y)).run P w = .ok (.bool (decide (x ≤ y))) w := by simp [binOp, Op.intCmp]
theorem bin_geqI (w : World) : (binOp .geq T (.int k x) (.int k y)).run P w = .ok (.bool (decide (y ≤ x))) w := by simp [binOp, Op.intCmp]
end
theorem blt_maxI {ts : Array TypeId} {ty : TypeId} {k : IntKind} {x y : Int} : ∀ cs w, (builtin .max ts ty cs [Value.int k x, Value.int k y].toArray).run P w = .ok (.value (.int k (max x y))) w := by
  intro cs w
  have : (if y > x then y else x) = max x y := by rw [Int.max_def]; split <;> split <;> omega
  simp [builtin, Builtin.max_, Builtin.max2, Sem.run_bind, Result.andThen, this]
theorem blt_maxN {ts : Array TypeId} {ty : TypeId} {k : IntKind} {x y : Nat} : ∀ cs w, (builtin .max ts ty cs [Value.int k (x : Int), Value.int k (y : Int)].toArray).run P w = .ok (.value (.int k ((max x y : Nat) : Int))) w := by
  intro cs w
  rw [blt_maxI, show max (x : Int) (y : Int) = ((max x y : Nat) : Int) by omega]
theorem run_slA {o : Oper} {a : Act} {T E : TypeId} {x : Operand} {g N z : Nat} (ho : o.op = .slice T x none none none) (hx : a.eval x = .pointer (some ⟨g, 0, none⟩)) (ha : P.underlying T = some (.array N E)) (hz : ∀ w, (sizeOf E).run P w = .ok z w) :
    (execOp a.eval o).run P w = .ok (.value (.slice (some ⟨g, 0, none⟩) N N)) w := by
  unfold execOp
  rw [ho]
  have e : (⟨g, 0, none⟩ : Addr).add 0 = ⟨g, 0, none⟩ := by rw [Addr.add_mid]
  simp [hx, Instr.sliceAt, Sem.run_bind, run_underlying ha, Result.andThen, Instr.sureAddr, Instr.sliceBounds, hz, e]
theorem St.cellT (hs : St n w0 fs bs a w) {k g : Nat} {T : TypeId} {κ : IntKind} {l : Nat} {f : Nat → Nat} {sp : List Value} (hb : bs[k]? = some (true, g, T, tab κ l f ++ sp)) : ∀ j, j < l → w.cell? ⟨g, j, none⟩ = some (.int κ (f j : Int)) := by
  intro j hj
  rw [cell_of_row w g j _ T _ (hs.blk hb)]
  simpa using tabs_get (k := κ) (sp := sp) hj
theorem op_app1 (hs : St n w0 fs bs a w) (m : Option Nat) (k k2 : Nat) {x y : Operand} {T E : TypeId} {z : Value} {κ : IntKind} {g g2 l bytes xv : Nat} {f : Nat → Nat} {sp : List Value} {d : Nat}
    (ho : o.op = .call ⟨.builtin .append, #[x, y], #[T, T]⟩) (hd : o.dst = some d) (hx : ev fs x = some (.slice (some ⟨g, 0, none⟩) l (tab κ l f ++ sp).length)) (hy : ev fs y = some (.slice (some ⟨g2, 0, none⟩) 1 1))
    (hb : bs[k]? = some (true, g, E, tab κ l f ++ sp)) (hb2 : bs[k2]? = some (true, g2, E, [.int κ (xv : Int)])) (hu : P.underlying T = some (.slice E)) (hi : Inf P E z 1 bytes) (hzs : z.cells.size = 1) (hby : bytes ≤ 8)
    (hcm : (tab κ l f ++ sp).length ≤ maxLen) (hl : l ≤ 1000000) (hf : f l = xv) (hok : okf m fs d n = true)
    (h : ∀ g' sp' a' w', St n w0 (putf m fs d (.slice (some ⟨g', 0, none⟩) (l + 1) (tab κ (l + 1) f ++ sp').length)) (bs.set k (true, g', E, tab κ (l + 1) f ++ sp')) a' w' → (tab κ (l + 1) f ++ sp').length ≤ maxLen → K a' w') : o.wp P a w K Q := by
  obtain ⟨i, hi, hz, hs1, hb1⟩ := hi
  have hmax : (1000001 : Nat) ≤ maxLen := by decide
  refine op_append hs m k (mm := 1) (c2 := 1) (ad := ⟨g2, 0, none⟩) (news := [.int κ (xv : Int)]) (xs := tab κ l f) (sp := sp) ho hd hx hy hb hu hi hz hs1 hb1 hzs (by decide) (by rw [tab_length, Nat.mul_one]) (by rw [Nat.mul_one]) hcm rfl ?_ ?_ (by decide) (by omega) ?_ hok ?_
  · have := hs.news hb2 (i := 0) 1
    simpa using this
  · intro u hu
    obtain rfl := List.mem_singleton.1 hu
    rfl
  · have : (l + 1) * bytes ≤ (l + 1) * 8 := Nat.mul_le_mul_left _ hby
    omega
  · intro g' c' sp' a' w' hs' hc' hm'
    rw [tab_snoc hf] at hs' hc'
    rw [Nat.mul_one] at hc'
    subst hc'
    exact h g' sp' a' w' hs' hm'
end
abbrev At (κ : IntKind) (n : Nat) (f : Nat → Nat) : Value := .agg (tab κ n f).toArray
theorem ldv_tab {κ : IntKind} {n : Nat} {f : Nat → Nat} : ldv true n (tab κ n f) 0 = some (At κ n f) := by
  unfold ldv
  rw [show Nat.ble (0 + n) (tab κ n f).length = true from Nat.ble_eq_true_of_le (by rw [tab_length]; omega)]
  simp only [cond_true, List.drop_zero]
  rw [List.take_of_length_le (by rw [tab_length]; exact Nat.le_refl _)]
theorem idx_at {P : Program} {T E : TypeId} {κ k : IntKind} {N j : Nat} {f : Nat → Nat} (hu : P.underlying T = some (.array N E)) (ha : ∀ w, (isAgg E).run P w = .ok false w) (hz : ∀ w, (sizeOf E).run P w = .ok 1 w) (hj : j < N) (w : World) :
    (Instr.index T (At κ N f) (.int k (j : Int))).run P w = .ok (.int κ (f j : Int)) w := by
  have h1 : (0 : Int) ≤ (j : Int) ∧ (j : Int) < (N : Int) := ⟨by omega, by omega⟩
  have h2 : (tab κ N f)[j]? = some (.int κ (f j : Int)) := tab_get (k := κ) hj
  simp [Instr.index, asIntOf, Sem.run_bind, run_underlying hu, Result.andThen, hz, h1, hj, part, ha, h2]
theorem wr_get : ∀ (vs cs : List Value) (i j : Nat), i + vs.length ≤ cs.length → (wr cs i vs)[j]? = if i ≤ j ∧ j < i + vs.length then vs[j - i]? else cs[j]?
  | [], cs, i, j, _ => by
    rw [wr, if_neg (by simp <;> omega)]
  | v :: vs, cs, i, j, h => by
    simp only [List.length_cons] at h
    rw [wr, wr_get vs (cs.set i v) (i + 1) j (by simp; omega)]
    by_cases h1 : i + 1 ≤ j ∧ j < i + 1 + vs.length
    · rw [if_pos h1, if_pos (by simp; omega), show j - i = (j - (i + 1)) + 1 by omega, List.getElem?_cons_succ]
    · rw [if_neg h1]
      by_cases h2 : j = i
      · subst h2
        rw [if_pos (by simp), Nat.sub_self, List.getElem?_set]
        simp; omega
      · rw [if_neg (by simp; omega), List.getElem?_set]
        rw [if_neg (fun h => h2 h.symm)]
theorem wr_all {vs cs : List Value} (h : cs.length = vs.length) : wr cs 0 vs = vs := by
  apply List.ext_getElem?
  intro j
  rw [wr_get vs cs 0 j (by omega)]
  by_cases hj : j < vs.length
  · rw [if_pos (by omega), Nat.sub_zero]
  · rw [if_neg (by omega), List.getElem?_eq_none (by omega), List.getElem?_eq_none (by omega)]
theorem wr_tab {κ : IntKind} {n : Nat} {f g : Nat → Nat} : wr (tab κ n f) 0 (tab κ n g) = tab κ n g := wr_all (by simp [tab_length])
theorem tab_length' {κ : IntKind} {n : Nat} {f : Nat → Nat} : (tab κ n f).length = n := tab_length κ n f
theorem tab_leA {κ : IntKind} {n : Nat} {f : Nat → Nat} : Nat.ble (0 + n) (tab κ n f).length = true := Nat.ble_eq_true_of_le (by rw [tab_length]; omega)
end Go.Proofs.YtejbajgpiecjcaaGreat

/- Numbers of 256 bits as values: four words. -/
namespace Go.Proofs.YtejbajgpiecjcaaGreat
open Go.RowKit
def lim (n k : Nat) : Int := ((n / 2 ^ (64 * k) % 2 ^ 64 : Nat) : Int)
abbrev W (n : Nat) : Value := .agg #[.int .u64 (lim n 0), .int .u64 (lim n 1), .int .u64 (lim n 2), .int .u64 (lim n 3)]
abbrev Wc (n : Nat) : Array Value := #[.int .u64 (lim n 0), .int .u64 (lim n 1), .int .u64 (lim n 2), .int .u64 (lim n 3)]
def Blk (w : World) (g : Nat) (t : TypeId) (cs : Array Value) : Prop := w.heap[g]? = some (.cells cs t (0, 0))
section
variable {w w' : World} {g : Nat} {t : TypeId} {cs : Array Value}
theorem Blk.lt (h : Blk w g t cs) : g < w.heap.size := by
  rcases Nat.lt_or_ge g w.heap.size with hlt | hge
  · exact hlt
  · unfold Blk at h; rw [Array.getElem?_eq_none hge] at h; cases h
theorem Blk.cell (h : Blk w g t cs) (i : Nat) : w.cell? ⟨g, i, none⟩ = cs[i]? := cell_of_row w g i cs t (0, 0) h
theorem Blk.frozen (h : Blk w g t cs) (i : Nat) : w.frozen? ⟨g, i, none⟩ = false := by
  unfold Blk at h
  simp [World.frozen?, h]
theorem Blk.new (w : World) (t : TypeId) (cs : Array Value) (g : Nat) (hg : g = w.heap.size) : Blk (w.alloc (.cells cs t)) g t cs := by subst hg; exact heap_alloc_new w _
theorem Blk.drew (h : Blk w g t cs) : Blk w.drew g t cs := h
theorem Blk.alloc (h : Blk w g t cs) (o : Obj) : Blk (w.alloc o) g t cs := (Below.heap_alloc w o g h.lt).trans h
theorem Blk.set_ (h : Blk w g t cs) (i : Nat) (u : Value) : Blk (w.setCell ⟨g, i, none⟩ u) g t (cs.setIfInBounds i u) := by
  unfold Blk at h ⊢
  simp [World.setCell, Array.getElem?_modify, h]
theorem Blk.far (h : Blk w g t cs) {p : Addr} (hp : g ≠ p.block) (u : Value) : Blk (w.setCell p u) g t cs := (Below.heap_setCell w p u g hp).trans h
theorem Blk.below {B : Nat} (h : Blk w g t cs) (hb : Below B w w') (hg : g < B) : Blk w' g t cs := (hb.block g hg).trans h
end
abbrev arr (f : Nat → Int) : Array Value := #[.int .u64 (f 0), .int .u64 (f 1), .int .u64 (f 2), .int .u64 (f 3)]
theorem arr_get (f : Nat → Int) (k : Nat) (h : k < 4) : (arr f)[k]? = some (.int .u64 (f k)) := by
  match k, h with
  | 0, _ => rfl
  | 1, _ => rfl
  | 2, _ => rfl
  | 3, _ => rfl
def upd (f : Nat → Int) (k : Nat) (x : Int) : Nat → Int := fun j => if j = k then x else f j
theorem arr_set (f : Nat → Int) (k : Nat) (h : k < 4) (x : Int) : (arr f).setIfInBounds k (.int .u64 x) = arr (upd f k x) := by
  match k, h with
  | 0, _ => rfl
  | 1, _ => rfl
  | 2, _ => rfl
  | 3, _ => rfl
theorem lim_lo (n k : Nat) : 0 ≤ lim n k := by unfold lim; omega
theorem lim_mod (n k : Nat) (h : k < 4) : lim (n % 2 ^ 256) k = lim n k := by
  unfold lim
  congr 1
  match k, h with
  | 0, _ => omega
  | 1, _ => omega
  | 2, _ => omega
  | 3, _ => omega
theorem W_mod (n : Nat) : W (n % 2 ^ 256) = W n := by
  unfold W
  rw [lim_mod n 0 (by omega), lim_mod n 1 (by omega), lim_mod n 2 (by omega), lim_mod n 3 (by omega)]
theorem load_blk {w : World} {g : Nat} {t : TypeId} {cs : Array Value} (h : Blk w g t cs) (hs : cs.size = 4) : (loadVar 24 ⟨g, 0, none⟩).run Tryz.prog w = .ok (.agg cs) w :=
  run_loadVar_row w g t 24 cs (0, 0) _ h Tryz.underlying24 rfl (by rw [hs]; kernel_rfl)
section
variable {fn : Func} {p q u : Tmp} {tmps : Array Value} {w : World} {g g' : Nat} {t t' : TypeId} {cs cs' : Array Value}
theorem results_c (h : fn.results = #[.cell p 24]) (hp : tmps.getD p undef = .pointer (some ⟨g, 0, none⟩)) (hb : Blk w g t cs) (hs : cs.size = 4) :
    (results fn tmps).run Tryz.prog w = .ok (.agg cs) w := by
  have hp' : tmps[p]?.getD undef = .pointer (some ⟨g, 0, none⟩) := by simpa using hp
  simp [results, h, hp', asAddr, load_blk hb hs]
theorem results_cu (h : fn.results = #[.cell p 24, .tmp u]) (hp : tmps.getD p undef = .pointer (some ⟨g, 0, none⟩)) (hb : Blk w g t cs) (hs : cs.size = 4) :
    (results fn tmps).run Tryz.prog w = .ok (.tuple #[.agg cs, tmps.getD u undef]) w := by
  rw [results_cell_tmp h, hp]
  simp [asAddr, load_blk hb hs, Result.andThen]
theorem results_cc (h : fn.results = #[.cell p 24, .cell q 24]) (hp : tmps.getD p undef = .pointer (some ⟨g, 0, none⟩)) (hb : Blk w g t cs) (hs : cs.size = 4)
    (hq : tmps.getD q undef = .pointer (some ⟨g', 0, none⟩)) (hb' : Blk w g' t' cs') (hs' : cs'.size = 4) :
    (results fn tmps).run Tryz.prog w = .ok (.tuple #[.agg cs, .agg cs']) w := by
  have hp' : tmps[p]?.getD undef = .pointer (some ⟨g, 0, none⟩) := by simpa using hp
  have hq' : tmps[q]?.getD undef = .pointer (some ⟨g', 0, none⟩) := by simpa using hq
  simp [results, h, hp', hq', asAddr, load_blk hb hs, load_blk hb' hs', Sem.run_bind, Result.andThen]
end
theorem Blk.fill {w : World} {g : Nat} {t : TypeId} {cs : Array Value} (h : Blk w g t cs) (hs : cs.size = 4) (x0 x1 x2 x3 : Value) :
    Blk ((((w.setCell ⟨g, 0, none⟩ x0).setCell ⟨g, 1, none⟩ x1).setCell ⟨g, 2, none⟩ x2).setCell ⟨g, 3, none⟩ x3) g t #[x0, x1, x2, x3] := by
  have := (((h.set_ 0 x0).set_ 1 x1).set_ 2 x2).set_ 3 x3
  obtain ⟨l⟩ := cs
  match l, hs with
  | [a, b, c, d], _ => exact this
end Go.Proofs.YtejbajgpiecjcaaGreat

/- Numbers of 256 bits as lists of cells. -/
namespace Go.Proofs.YtejbajgpiecjcaaGreat
abbrev Wl (n : Nat) : List Value := [.int .u64 (lim n 0), .int .u64 (lim n 1), .int .u64 (lim n 2), .int .u64 (lim n 3)]
def limN (n k : Nat) : Nat := n / 2 ^ (64 * k) % 2 ^ 64
theorem limN_lt (n k : Nat) : limN n k < 2 ^ 64 := Nat.mod_lt _ (Nat.two_pow_pos 64)
theorem Wl_get {n j : Nat} (h : j < 4) : (Wl n)[j]? = some (.int .u64 ((limN n j : Nat) : Int)) := by
  match j, h with
  | 0, _ => rfl
  | 1, _ => rfl
  | 2, _ => rfl
  | 3, _ => rfl
theorem Wl_tab (n : Nat) : Wl n = tab .u64 4 (limN n) := rfl
theorem tab_Wl {f : Nat → Nat} {n : Nat} (h : ∀ j, j < 4 → f j = limN n j) : tab .u64 4 f = Wl n := (tab_congr h).trans (Wl_tab n).symm
end Go.Proofs.YtejbajgpiecjcaaGreat

/- Slices, and numbers of 256 bits as lists of cells. -/

/- '==' on arrays of bytes. -/
namespace Go.Proofs.YtejbajgpiecjcaaGreat
open Go.RowKit
section
variable {P : Program}
theorem eqlAt {T E : TypeId} {κ : IntKind} {n : Nat} {f g : Nat → Nat} {z : Value} {bytes : Nat} (hu : P.underlying T = some (.array n E)) (he : P.underlying E = some (.int κ)) (hI : Inf P E z 1 bytes) (hc : P.cellsOf E = 1) (ha : ∀ w, (isAgg E).run P w = .ok false w)
    (h : ∀ j, j < n → f j = g j) (w : World) : (binOp .eql T (At κ n f) (At κ n g)).run P w = .ok (.bool true) w := by
  obtain ⟨i, hi, _⟩ := hI
  rw [show At κ n g = At κ n f by unfold At; rw [tab_congr fun j hj => (h j hj).symm]]
  have key : ∀ (l : List Nat), (∀ j ∈ l, j < n) → (Op.eqItems 9999 E 1 (tab κ n f).toArray (tab κ n f).toArray l).run P w = .ok true w := by
    intro l
    induction l with
    | nil => intro _; simp [Op.eqItems]
    | cons j l ih =>
      intro hl
      have hj := hl j (List.mem_cons_self ..)
      have hg : ((tab κ n f).toArray)[j * 1]? = some (.int κ (f j : Int)) := by
        have := tab_get (k := κ) (f := f) hj
        simpa using this
      have hp : (part E (tab κ n f).toArray (j * 1)).run P w = .ok (.int κ (f j : Int)) w := by
        simp only [part, Sem.run_bind, ha, Result.andThen_ok, hg]
        simp
      simp only [Op.eqItems, Sem.run_bind, hp, Result.andThen_ok, run_equalIn_int (P := P) w 9998 E κ κ _ _ he]
      simpa using ih fun j' hj' => hl j' (List.mem_cons_of_mem _ hj')
  have h2 := run_equalIn_array (P := P) w 9999 (tab κ n f).toArray (tab κ n f).toArray hu hi
  rw [hc, key _ fun j hj => List.mem_range.1 hj] at h2
  simp only [binOp, At, Sem.run_bind, Op.equal, Op.maxDepth, h2, Result.andThen_ok, Sem.run_pure]
end
end Go.Proofs.YtejbajgpiecjcaaGreat

/- The contract of wide.Add. -/
namespace Go.Proofs.YtejbajgpiecjcaaGreat
open Go.RowKit
def cry (a b k : Nat) : Nat := (a % 2 ^ (64 * k) + b % 2 ^ (64 * k)) / 2 ^ (64 * k)
theorem cry_le (a b k : Nat) : cry a b k ≤ 1 := by
  unfold cry
  have h := Nat.two_pow_pos (64 * k)
  have h1 := Nat.mod_lt a h
  have h2 := Nat.mod_lt b h
  generalize 2 ^ (64 * k) = A at *
  rw [Nat.div_le_iff_le_mul h]
  omega
theorem split_div (a A : Nat) (hA : 0 < A) : a / A * A + a % A = a := by rw [Nat.mul_comm]; exact Nat.div_add_mod a A
theorem cry_step (a b k : Nat) : ((a / 2 ^ (64 * k) % 2 ^ 64 + b / 2 ^ (64 * k) % 2 ^ 64 + cry a b k) % 2 ^ 64 = (a + b) / 2 ^ (64 * k) % 2 ^ 64) ∧
    (a / 2 ^ (64 * k) % 2 ^ 64 + b / 2 ^ (64 * k) % 2 ^ 64 + cry a b k) / 2 ^ 64 = cry a b (k + 1) := by
  have hp := Nat.two_pow_pos (64 * k)
  have e : 2 ^ (64 * (k + 1)) = 2 ^ (64 * k) * 2 ^ 64 := by rw [← Nat.pow_add]; congr 1
  unfold cry
  rw [e]
  generalize 2 ^ (64 * k) = A at *
  generalize (2 : Nat) ^ 64 = B at *
  have hsum : (a + b) / A = (a % A + b % A) / A + a / A + b / A := by
    have h1 := split_div a A hp
    have h2 := split_div b A hp
    have : a + b = (a % A + b % A) + A * (a / A + b / A) := by
      rw [Nat.mul_add, Nat.mul_comm A, Nat.mul_comm A]; omega
    rw [this, Nat.add_mul_div_left _ _ hp]; omega
  constructor
  · rw [hsum]
    generalize (a % A + b % A) / A = c
    generalize a / A = x
    generalize b / A = y
    have h1 : (x % B + y % B + c) % B = (x + y + c) % B := by simp only [Nat.add_mod, Nat.mod_mod]
    rw [h1]
    exact congrArg (· % B) (by omega)
  · have m1 : a % (A * B) = a % A + A * (a / A % B) := Nat.mod_mul
    have m2 : b % (A * B) = b % A + A * (b / A % B) := Nat.mod_mul
    have h3 : a % A + A * (a / A % B) + (b % A + A * (b / A % B)) = (a % A + b % A) + A * (a / A % B + b / A % B) := by rw [Nat.mul_add]; omega
    rw [m1, m2, ← Nat.div_div_eq_div_mul, h3, Nat.add_mul_div_left _ _ hp]
    generalize (a % A + b % A) / A = c
    generalize a / A % B = x
    generalize b / A % B = y
    exact congrArg (· / B) (by omega)
theorem run39 (x y c : Int) (hx : 0 ≤ x) (hy : 0 ≤ y) (hc0 : 0 ≤ c) (hc : c ≤ 1) (w : World) :
    (callFunc 93 #[.int .u64 x, .int .u64 y, .int .u64 c]).run Tryz.prog w = .ok (.value (.tuple #[.int .u64 ((x + y + c) % 18446744073709551616), .int .u64 ((x + y + c) / 18446744073709551616)])) w := by
  rw [run_callFunc_extern Tryz.func93 (by kernel_rfl) (by kernel_rfl) (by kernel_rfl) (e := add64Entry) (by kernel_rfl), run_add64 x y c hx hy hc0 hc]
  rfl
def AddInv (N : Nat) (w : World) (a b : Nat) (i c : Value) (wr : World) : Prop :=
  ∃ (k : Nat) (g : Nat → Int), k ≤ 4 ∧ i = .int .i64 k ∧ c = .int .u64 (cry a b k : Int) ∧ Blk wr N 24 (Wc a) ∧ Blk wr (N + 1) 24 (Wc b) ∧ Blk wr (N + 2) 24 (arr fun _ => 0) ∧ Blk wr (N + 3) 24 (arr g) ∧
    Below N w wr ∧ ∀ j, j < k → g j = lim (a + b) j
theorem add_any (w : World) (a b : Nat) (ha : a < 2 ^ 256) (hb : b < 2 ^ 256) :
    Calls Tryz.prog 50 #[W a, W b] w fun e w' => e = .returned (.tuple #[W ((a + b) % 2 ^ 256), .int .u64 (((a + b) / 2 ^ 256 : Nat) : Int)]) ∧ Below w.heap.size w w' := by
  have HA := Lib.hid ha
  have HB := Lib.hid hb
  clear ha hb
  go_enter Tryz.func50, Tryz.ntmps50
  go_wp2
  go_loopw [9, 7, 8] (fun i c _ wr => AddInv w.heap.size w a b i c wr) (fun i _ _ _ => 4 - (intOf i).toNat)
  case atStart =>
    refine ⟨0, fun _ => 0, by omega, rfl, ?_, ?_, ?_, ?_, ?_, ?_, fun j hj => by omega⟩
    · unfold cry; simp [Nat.mod_one]
    · exact (((Blk.new w _ _ _ rfl).alloc _).alloc _).alloc _
    · exact ((Blk.new _ _ _ _ (by simp)).alloc _).alloc _
    · exact (Blk.new _ _ _ _ (by simp)).alloc _
    · exact Blk.new _ _ _ _ (by simp)
    · exact ((((Below.refl _ _).alloc (Nat.le_refl _) _).alloc (by simp) _).alloc (by simp <;> omega) _).alloc (by simp <;> omega) _
  case round =>
    obtain ⟨k, g, hk, rfl, rfl, b0, b1, b2, b3, hbl, hg⟩ := hrel
    obtain ⟨cc, hcc⟩ : ∃ cc, cry a b k = cc := ⟨_, rfl⟩
    have hc1 : cc ≤ 1 := by rw [← hcc]; exact cry_le a b k
    rw [hcc]
    by_cases hlt : k < 4
    · obtain ⟨x, hx⟩ : ∃ x, lim a k = x := ⟨_, rfl⟩
      obtain ⟨y, hy⟩ : ∃ y, lim b k = y := ⟨_, rfl⟩
      have c0 : wr.cell? ⟨w.heap.size, k, none⟩ = some (.int .u64 x) := by rw [b0.cell, arr_get (lim a) k hlt, hx]
      have c1 : wr.cell? ⟨w.heap.size + 1, k, none⟩ = some (.int .u64 y) := by rw [b1.cell, arr_get (lim b) k hlt, hy]
      have c3 : wr.cell? ⟨w.heap.size + 1 + 1 + 1, k, none⟩ = some (.int .u64 (g k)) := by rw [b3.cell, arr_get g k hlt]
      have f3 : wr.frozen? ⟨w.heap.size + 1 + 1 + 1, k, none⟩ = false := b3.frozen k
      obtain ⟨S, hS⟩ : ∃ S, (x + y + (cc : Int)) % 18446744073709551616 = S := ⟨_, rfl⟩
      obtain ⟨C, hC⟩ : ∃ C, (x + y + (cc : Int)) / 18446744073709551616 = C := ⟨_, rfl⟩
      have hr := fun w => run39 x y cc (by rw [← hx]; exact lim_lo _ _) (by rw [← hy]; exact lim_lo _ _) (by omega) (by omega) w
      rw [hS, hC] at hr
      have HS := Lib.hid hS
      have HC := Lib.hid hC
      have HX := Lib.hid hx
      have HY := Lib.hid hy
      have HCC := Lib.hid hcc
      clear hS hC hx hy hcc
      go_wp2
      go_region
      go_wp2
      go_roundw
      case rel =>
        refine ⟨k + 1, upd g k S, by omega, by go_num, ?_, b0.drew.far (by simp <;> omega) _, b1.drew.far (by simp <;> omega) _, b2.drew.far (by simp) _, ?_, hbl.drew.setCell (by simp <;> omega) _, ?_⟩
        · rw [← HC.out, ← HX.out, ← HY.out, ← HCC.out, ← (cry_step a b k).2]
          unfold lim
          simp
        · rw [← arr_set g k hlt]
          exact b3.drew.set_ k _
        · intro j hj
          unfold upd
          by_cases hjk : j = k
          · subst hjk
            rw [if_pos rfl, ← HS.out, ← HX.out, ← HY.out, ← HCC.out]
            have := (cry_step a b j).1
            unfold lim
            rw [← this]
            simp
          · rw [if_neg hjk]
            exact hg j (by omega)
      case measure => simp [intOf]; omega
    · obtain rfl : k = 4 := by omega
      have e3 : arr g = Wc (a + b) := by
        unfold arr Wc
        rw [hg 0 (by omega), hg 1 (by omega), hg 2 (by omega), hg 3 (by omega)]
      rw [e3] at b3
      have c30 := b3.cell 0
      have c31 := b3.cell 1
      have c32 := b3.cell 2
      have c33 := b3.cell 3
      have c20 := b2.cell 0
      have c21 := b2.cell 1
      have c22 := b2.cell 2
      have c23 := b2.cell 3
      have f20 := b2.frozen 0
      have f21 := b2.frozen 1
      have f22 := b2.frozen 2
      have f23 := b2.frozen 3
      go_wp2
      refine bodyPost_ret (results_cu rfl rfl (b2.fill rfl _ _ _ _) rfl) rfl ⟨?_, (((hbl.setCell (by simp <;> omega) _).setCell (by simp <;> omega) _).setCell (by simp <;> omega) _).setCell (by simp <;> omega) _⟩
      rw [W_mod]
      show Ending.returned (.tuple #[W (a + b), .int .u64 (cc : Int)]) = _
      rw [← hcc]
      unfold cry
      rw [Nat.mod_eq_of_lt HA.out, Nat.mod_eq_of_lt HB.out]
end Go.Proofs.YtejbajgpiecjcaaGreat

/- The contract of wide.Sub. -/
namespace Go.Proofs.YtejbajgpiecjcaaGreat
open Go.RowKit
def brw (a b k : Nat) : Nat := if a % 2 ^ (64 * k) < b % 2 ^ (64 * k) then 1 else 0
theorem brw_le (a b k : Nat) : brw a b k ≤ 1 := by unfold brw; split <;> omega
theorem brw_step2 (a b k : Nat) : (if a / 2 ^ (64 * k) % 2 ^ 64 < b / 2 ^ (64 * k) % 2 ^ 64 + brw a b k then 1 else 0) = brw a b (k + 1) := by
  have hp := Nat.two_pow_pos (64 * k)
  have e : 2 ^ (64 * (k + 1)) = 2 ^ (64 * k) * 2 ^ 64 := by rw [← Nat.pow_add]; congr 1
  unfold brw
  rw [e]
  generalize 2 ^ (64 * k) = A at *
  generalize (2 : Nat) ^ 64 = B at *
  have m1 : a % (A * B) = a % A + A * (a / A % B) := Nat.mod_mul
  have m2 : b % (A * B) = b % A + A * (b / A % B) := Nat.mod_mul
  rw [m1, m2]
  have h1 := Nat.mod_lt a hp
  have h2 := Nat.mod_lt b hp
  generalize a % A = ar at *
  generalize b % A = br at *
  generalize a / A % B = x
  generalize b / A % B = y
  rcases Nat.lt_trichotomy x y with h | h | h
  · have h3 : A * (x + 1) ≤ A * y := Nat.mul_le_mul_left A h
    rw [Nat.mul_add] at h3
    rw [if_pos (by omega), if_pos (by omega)]
  · subst h
    by_cases hb : ar < br
    · rw [if_pos hb, if_pos (by omega), if_pos (by omega)]
    · rw [if_neg hb, if_neg (by omega), if_neg (by omega)]
  · have h3 : A * (y + 1) ≤ A * x := Nat.mul_le_mul_left A h
    rw [Nat.mul_add] at h3
    rw [if_neg (by split <;> omega), if_neg (by omega)]
theorem brw_step1 (a b k : Nat) (hb : b < 2 ^ 256) (hk : k < 4) : (a / 2 ^ (64 * k) % 2 ^ 64 + 2 ^ 64 - b / 2 ^ (64 * k) % 2 ^ 64 - brw a b k) % 2 ^ 64 = (a + 2 ^ 256 - b) / 2 ^ (64 * k) % 2 ^ 64 := by
  have hp := Nat.two_pow_pos (64 * k)
  have hpB := Nat.two_pow_pos 64
  have hQ : (2 : Nat) ^ 256 = 2 ^ (64 * k) * (2 ^ 64 * 2 ^ (192 - 64 * k)) := by
    rw [← Nat.pow_add, ← Nat.pow_add]; congr 1; omega
  have hpQ := Nat.two_pow_pos (192 - 64 * k)
  rw [hQ] at hb ⊢
  unfold brw
  generalize 2 ^ (192 - 64 * k) = Q at *
  generalize 2 ^ (64 * k) = A at *
  generalize (2 : Nat) ^ 64 = B at *
  have hb2 : b / A < B * Q := Nat.div_lt_of_lt_mul hb
  have hb3 : b / A / B < Q := Nat.div_lt_of_lt_mul hb2
  have d1 := Nat.div_add_mod a A
  have d2 := Nat.div_add_mod b A
  have l1 := Nat.mod_lt a hp
  have l2 := Nat.mod_lt b hp
  have d3 := Nat.div_add_mod (a / A) B
  have d4 := Nat.div_add_mod (b / A) B
  have l3 := Nat.mod_lt (a / A) hpB
  have l4 := Nat.mod_lt (b / A) hpB
  generalize a % A = ar at *
  generalize b % A = br at *
  generalize a / A = a' at *
  generalize b / A = b' at *
  generalize a' % B = x at *
  generalize b' % B = y at *
  generalize a' / B = a2 at *
  generalize b' / B = b2 at *
  have key : ∀ c, c ≤ 1 → (a' + B * Q - b' - c) % B = (x + B - y - c) % B := by
    intro c hc
    obtain ⟨q, rfl⟩ : ∃ q, Q = b2 + 1 + q := ⟨Q - b2 - 1, by omega⟩
    have e1 : a' + B * (b2 + 1 + q) - b' - c = B * (a2 + q) + (x + B - y - c) := by
      rw [← d3, ← d4]
      simp only [Nat.mul_add, Nat.mul_one]
      omega
    rw [e1, Nat.mul_add_mod]
  have e0 : A * (B * Q) ≥ A * b' := Nat.mul_le_mul_left A (by omega)
  by_cases h : ar < br
  · rw [if_pos h, ← key 1 (by omega)]
    have e2 : a + A * (B * Q) - b = A * (a' + B * Q - b' - 1) + (A + ar - br) := by
      obtain ⟨t, ht⟩ : ∃ t, B * Q = b' + 1 + t := ⟨B * Q - b' - 1, by omega⟩
      rw [ht] at e0 ⊢
      rw [← d1, ← d2]
      have : a' + (b' + 1 + t) - b' - 1 = a' + t := by omega
      rw [this]
      simp only [Nat.mul_add, Nat.mul_one]
      omega
    rw [e2, Nat.mul_add_div hp, Nat.div_eq_of_lt (by omega : A + ar - br < A)]
    rfl
  · rw [if_neg h, ← key 0 (by omega)]
    have e2 : a + A * (B * Q) - b = A * (a' + B * Q - b') + (ar - br) := by
      obtain ⟨t, ht⟩ : ∃ t, B * Q = b' + 1 + t := ⟨B * Q - b' - 1, by omega⟩
      rw [ht] at e0 ⊢
      rw [← d1, ← d2]
      have : a' + (b' + 1 + t) - b' = a' + 1 + t := by omega
      rw [this]
      simp only [Nat.mul_add, Nat.mul_one]
      omega
    rw [e2, Nat.mul_add_div hp, Nat.div_eq_of_lt (by omega : ar - br < A)]
    rfl
def bor (a b : Nat) : Nat := if a < b then 1 else 0
theorem run42 (x y b : Nat) (hb : b ≤ 1) (w : World) :
    (callFunc 112 #[.int .u64 (x : Int), .int .u64 (y : Int), .int .u64 (b : Int)]).run Tryz.prog w = .ok (.value (.tuple #[.int .u64 (((x + 18446744073709551616 - y - b) % 18446744073709551616 : Nat) : Int), .int .u64 ((if x < y + b then 1 else 0 : Nat) : Int)])) w := by
  rw [run_callFunc_extern Tryz.func112 (by kernel_rfl) (by kernel_rfl) (by kernel_rfl) (e := sub64Entry) (by kernel_rfl), run_sub64 x y b hb]
  rfl
def SubInv (N : Nat) (w : World) (a b : Nat) (i c : Value) (wr : World) : Prop :=
  ∃ (k : Nat) (g : Nat → Int), k ≤ 4 ∧ i = .int .i64 k ∧ c = .int .u64 (brw a b k : Int) ∧ Blk wr N 24 (Wc a) ∧ Blk wr (N + 1) 24 (Wc b) ∧ Blk wr (N + 2) 24 (arr fun _ => 0) ∧ Blk wr (N + 3) 24 (arr g) ∧
    Below N w wr ∧ ∀ j, j < k → g j = lim (a + 2 ^ 256 - b) j
theorem sub_any (w : World) (a b : Nat) (ha : a < 2 ^ 256) (hb : b < 2 ^ 256) :
    Calls Tryz.prog 71 #[W a, W b] w fun e w' => e = .returned (.tuple #[W ((a + 2 ^ 256 - b) % 2 ^ 256), .int .u64 (bor a b : Int)]) ∧ Below w.heap.size w w' := by
  have HA := Lib.hid ha
  have HB := Lib.hid hb
  clear ha hb
  go_enter Tryz.func71, Tryz.ntmps71
  go_wp2
  go_loopw [9, 7, 8] (fun i c _ wr => SubInv w.heap.size w a b i c wr) (fun i _ _ _ => 4 - (intOf i).toNat)
  case atStart =>
    refine ⟨0, fun _ => 0, by omega, rfl, ?_, ?_, ?_, ?_, ?_, ?_, fun j hj => by omega⟩
    · unfold brw; simp [Nat.mod_one]
    · exact (((Blk.new w _ _ _ rfl).alloc _).alloc _).alloc _
    · exact ((Blk.new _ _ _ _ (by simp)).alloc _).alloc _
    · exact (Blk.new _ _ _ _ (by simp)).alloc _
    · exact Blk.new _ _ _ _ (by simp)
    · exact ((((Below.refl _ _).alloc (Nat.le_refl _) _).alloc (by simp) _).alloc (by simp <;> omega) _).alloc (by simp <;> omega) _
  case round =>
    obtain ⟨k, g, hk, rfl, rfl, b0, b1, b2, b3, hbl, hg⟩ := hrel
    obtain ⟨cc, hcc⟩ : ∃ cc, brw a b k = cc := ⟨_, rfl⟩
    have hc1 : cc ≤ 1 := by rw [← hcc]; exact brw_le a b k
    rw [hcc]
    by_cases hlt : k < 4
    · obtain ⟨x, hx⟩ : ∃ x : Nat, a / 2 ^ (64 * k) % 2 ^ 64 = x := ⟨_, rfl⟩
      obtain ⟨y, hy⟩ : ∃ y : Nat, b / 2 ^ (64 * k) % 2 ^ 64 = y := ⟨_, rfl⟩
      have c0 : wr.cell? ⟨w.heap.size, k, none⟩ = some (.int .u64 (x : Int)) := by rw [b0.cell, arr_get (lim a) k hlt, ← hx]; rfl
      have c1 : wr.cell? ⟨w.heap.size + 1, k, none⟩ = some (.int .u64 (y : Int)) := by rw [b1.cell, arr_get (lim b) k hlt, ← hy]; rfl
      have c3 : wr.cell? ⟨w.heap.size + 1 + 1 + 1, k, none⟩ = some (.int .u64 (g k)) := by rw [b3.cell, arr_get g k hlt]
      have f3 : wr.frozen? ⟨w.heap.size + 1 + 1 + 1, k, none⟩ = false := b3.frozen k
      have hr := fun w => run42 x y cc hc1 w
      have HS1 := brw_step1 a b k HB.out hlt
      have HC1 := brw_step2 a b k
      rw [hx, hy, hcc] at HS1 HC1
      obtain ⟨S, hS⟩ : ∃ S : Nat, (x + 18446744073709551616 - y - cc) % 18446744073709551616 = S := ⟨_, rfl⟩
      obtain ⟨C, hC⟩ : ∃ C : Nat, (if x < y + cc then 1 else 0) = C := ⟨_, rfl⟩
      rw [hS, hC] at hr
      have HS : Hid ((S : Int) = lim (a + 2 ^ 256 - b) k) := by
        unfold lim
        rw [← HS1, ← hS]; exact rfl
      have HC : Hid (C = brw a b (k + 1)) := by rw [← HC1, ← hC]; exact rfl
      clear hS hC hx hy hcc HS1 HC1
      go_wp2
      go_region
      go_wp2
      go_roundw
      case rel =>
        refine ⟨k + 1, upd g k S, by omega, by go_num, ?_, b0.drew.far (by simp <;> omega) _, b1.drew.far (by simp <;> omega) _, b2.drew.far (by simp) _, ?_, hbl.drew.setCell (by simp <;> omega) _, ?_⟩
        · rw [HC.out]
        · rw [← arr_set g k hlt]
          exact b3.drew.set_ k _
        · intro j hj
          unfold upd
          by_cases hjk : j = k
          · subst hjk
            rw [if_pos rfl]
            exact HS.out
          · rw [if_neg hjk]
            exact hg j (by omega)
      case measure => simp [intOf]; omega
    · obtain rfl : k = 4 := by omega
      have e3 : arr g = Wc (a + 2 ^ 256 - b) := by
        unfold arr Wc
        rw [hg 0 (by omega), hg 1 (by omega), hg 2 (by omega), hg 3 (by omega)]
      rw [e3] at b3
      have c30 := b3.cell 0
      have c31 := b3.cell 1
      have c32 := b3.cell 2
      have c33 := b3.cell 3
      have c20 := b2.cell 0
      have c21 := b2.cell 1
      have c22 := b2.cell 2
      have c23 := b2.cell 3
      have f20 := b2.frozen 0
      have f21 := b2.frozen 1
      have f22 := b2.frozen 2
      have f23 := b2.frozen 3
      go_wp2
      refine bodyPost_ret (results_cu rfl rfl (b2.fill rfl _ _ _ _) rfl) rfl ⟨?_, (((hbl.setCell (by simp <;> omega) _).setCell (by simp <;> omega) _).setCell (by simp <;> omega) _).setCell (by simp <;> omega) _⟩
      rw [W_mod]
      show Ending.returned (.tuple #[W (a + 2 ^ 256 - b), .int .u64 (cc : Int)]) = _
      rw [← hcc]
      unfold brw bor
      rw [Nat.mod_eq_of_lt HA.out, Nat.mod_eq_of_lt HB.out]
end Go.Proofs.YtejbajgpiecjcaaGreat

/- The contracts of wide.Cmp, of the reference's Cmp, of wide.From. -/
namespace Go.Proofs.YtejbajgpiecjcaaGreat
open Go.RowKit
def cmpZ (a b : Nat) : Int := if a < b then -1 else if b < a then 1 else 0
theorem top_split (a k : Nat) : a / 2 ^ (64 * k) = 2 ^ 64 * (a / 2 ^ (64 * (k + 1))) + a / 2 ^ (64 * k) % 2 ^ 64 := by
  have e : 2 ^ (64 * (k + 1)) = 2 ^ (64 * k) * 2 ^ 64 := by rw [← Nat.pow_add]; congr 1
  rw [e, ← Nat.div_div_eq_div_mul]
  exact (Nat.div_add_mod _ _).symm
theorem lt_of_top {a b k : Nat} (h : a / 2 ^ (64 * (k + 1)) = b / 2 ^ (64 * (k + 1))) (hx : a / 2 ^ (64 * k) % 2 ^ 64 < b / 2 ^ (64 * k) % 2 ^ 64) : a < b := by
  have h1 := top_split a k
  have h2 := top_split b k
  rw [h] at h1
  have h3 : a / 2 ^ (64 * k) < b / 2 ^ (64 * k) := by omega
  refine Classical.byContradiction fun hn => ?_
  have := Nat.div_le_div_right (c := 2 ^ (64 * k)) (Nat.not_lt.1 hn)
  omega
theorem eq_of_top {a b k : Nat} (h : a / 2 ^ (64 * (k + 1)) = b / 2 ^ (64 * (k + 1))) (hx : a / 2 ^ (64 * k) % 2 ^ 64 = b / 2 ^ (64 * k) % 2 ^ 64) : a / 2 ^ (64 * k) = b / 2 ^ (64 * k) := by
  rw [top_split a k, top_split b k, h, hx]
theorem cmp_lt {a b : Nat} (h : a < b) : cmpZ a b = -1 := by unfold cmpZ; rw [if_pos h]
theorem cmp_gt {a b : Nat} (h : b < a) : cmpZ a b = 1 := by unfold cmpZ; rw [if_neg (by omega), if_pos h]
theorem cmp_eq {a b : Nat} (h : a = b) : cmpZ a b = 0 := by unfold cmpZ; rw [if_neg (by omega), if_neg (by omega)]
theorem ret_int {k : IntKind} {a b : Int} (h : a = b) : Ending.returned (.int k a) = .returned (.int k b) := by rw [h]
theorem bl_al {w X : World} (h : Below w.heap.size w X) (o : Obj) : Below w.heap.size w (X.alloc o) := h.alloc h.size o
theorem bl_tr {w X Y : World} (h : Below w.heap.size w X) (h2 : Below X.heap.size X Y) : Below w.heap.size w Y := h.trans (h2.mono h.size)
def CmpInv (N : Nat) (w : World) (a b : Nat) (i : Value) (wr : World) : Prop :=
  ∃ k : Nat, k ≤ 4 ∧ i = .int .i64 ((k : Int) - 1) ∧ Blk wr N 24 (Wc a) ∧ Blk wr (N + 1) 24 (Wc b) ∧ Below N w wr ∧ a / 2 ^ (64 * k) = b / 2 ^ (64 * k)
set_option maxHeartbeats 1000000 in
theorem cmp_any (w : World) (a b : Nat) (ha : a < 2 ^ 256) (hb : b < 2 ^ 256) :
    Calls Tryz.prog 69 #[W a, W b] w fun e w' => e = .returned (.int .i64 (cmpZ a b)) ∧ Below w.heap.size w w' := by
  have H0 : Hid (a / 2 ^ (64 * 4) = b / 2 ^ (64 * 4)) := by rw [Nat.div_eq_of_lt ha, Nat.div_eq_of_lt hb]; exact rfl
  clear ha hb
  go_enter Tryz.func69, Tryz.ntmps69
  go_wp2
  go_loopw [5] (fun i wr => CmpInv w.heap.size w a b i wr) (fun i _ => (intOf i + 1).toNat)
  case atStart =>
    exact ⟨4, by omega, rfl, (Blk.new w _ _ _ rfl).alloc _, Blk.new _ _ _ _ (by simp), bl_al (bl_al (Below.refl _ _) _) _, H0.out⟩
  case round =>
    obtain ⟨k, hk, rfl, b0, b1, hbl, hq⟩ := hrel
    have HQ := Lib.hid hq
    clear hq
    rcases k with _ | k
    · go_wp2
      go_ret
      exact ⟨ret_int (cmp_eq (by have := HQ.out; simpa using this)).symm, hbl⟩
    · obtain ⟨x, hx⟩ : ∃ x : Nat, a / 2 ^ (64 * k) % 2 ^ 64 = x := ⟨_, rfl⟩
      obtain ⟨y, hy⟩ : ∃ y : Nat, b / 2 ^ (64 * k) % 2 ^ 64 = y := ⟨_, rfl⟩
      have hlt : k < 4 := by omega
      have c0 : wr.cell? ⟨w.heap.size, k, none⟩ = some (.int .u64 (x : Int)) := by rw [b0.cell, arr_get (lim a) k hlt, ← hx]; rfl
      have c1 : wr.cell? ⟨w.heap.size + 1, k, none⟩ = some (.int .u64 (y : Int)) := by rw [b1.cell, arr_get (lim b) k hlt, ← hy]; rfl
      have HX := Lib.hid hx
      have HY := Lib.hid hy
      clear hx hy
      rcases Nat.lt_trichotomy x y with h | h | h
      · go_wp2
        go_region
        go_wp2
        go_ret
        exact ⟨ret_int (cmp_lt (lt_of_top HQ.out (by rw [HX.out, HY.out]; exact h))).symm, hbl.drew⟩
      · subst h
        go_wp2
        go_region
        go_wp2
        go_region
        go_wp2
        go_roundw
        case rel => exact ⟨k, by omega, rfl, b0, b1, hbl.drew.drew, eq_of_top HQ.out (by rw [HX.out, HY.out])⟩
        case measure => simp [intOf] <;> omega
      · have h2 : ¬ x < y := by omega
        go_wp2
        go_region
        go_wp2
        go_region
        go_wp2
        go_ret
        exact ⟨ret_int (cmp_gt (lt_of_top HQ.out.symm (by rw [HX.out, HY.out]; exact h))).symm, hbl.drew.drew⟩
end Go.Proofs.YtejbajgpiecjcaaGreat

/- The contract of wide.From. -/
namespace Go.Proofs.YtejbajgpiecjcaaGreat
open Go.RowKit
theorem W_small (n : Nat) (h : n < 2 ^ 64) : W n = .agg #[.int .u64 (n : Int), .int .u64 0, .int .u64 0, .int .u64 0] := by
  have h0 : lim n 0 = (n : Int) := by unfold lim; simp; omega
  have h1 : lim n 1 = 0 := by unfold lim; omega
  have h2 : lim n 2 = 0 := by unfold lim; omega
  have h3 : lim n 3 = 0 := by unfold lim; omega
  unfold W
  rw [h0, h1, h2, h3]
theorem from_any (w : World) (n : Nat) (h : n < 2 ^ 64) :
    Calls Tryz.prog 45 #[.int .u64 (n : Int)] w fun e w' => e = .returned (W n) ∧ Below w.heap.size w w' := by
  have HW := Lib.hid (W_small n h)
  clear h
  go_enter Tryz.func45, Tryz.ntmps45
  go_wp2
  refine bodyPost_ret (results_c rfl rfl (Blk.new _ _ _ _ rfl) rfl) rfl ⟨by rw [HW.out], bl_al (Below.refl _ _) _⟩
theorem bl_set {w X : World} (h : Below w.heap.size w X) {p : Addr} (hp : w.heap.size ≤ p.block) (u : Value) : Below w.heap.size w (X.setCell p u) := h.setCell hp u
theorem sub_at (w : World) (a b d c : Nat) (ha : a < 2 ^ 256) (hb : b < 2 ^ 256) (hd : (a + 2 ^ 256 - b) % 2 ^ 256 = d) (hc : bor a b = c) :
    Calls Tryz.prog 71 #[W a, W b] w fun e w' => e = .returned (.tuple #[W d, .int .u64 (c : Int)]) ∧ Below w.heap.size w w' :=
  (sub_any w a b ha hb).mono fun e w' ⟨h1, h2⟩ => ⟨by rw [h1, hd, hc], h2⟩
theorem Blk.far4 {w : World} {g h : Nat} {t : TypeId} {cs : Array Value} (b : Blk w g t cs) (hne : g ≠ h) (x0 x1 x2 x3 : Value) :
    Blk ((((w.setCell ⟨h, 0, none⟩ x0).setCell ⟨h, 1, none⟩ x1).setCell ⟨h, 2, none⟩ x2).setCell ⟨h, 3, none⟩ x3) g t cs :=
  (((b.far (p := ⟨h, 0, none⟩) hne x0).far (p := ⟨h, 1, none⟩) hne x1).far (p := ⟨h, 2, none⟩) hne x2).far (p := ⟨h, 3, none⟩) hne x3
theorem Blk.facts {w : World} {g : Nat} {t : TypeId} {x0 x1 x2 x3 : Value} (b : Blk w g t #[x0, x1, x2, x3]) :
    (w.cell? ⟨g, 0, none⟩ = some x0 ∧ w.cell? ⟨g, 1, none⟩ = some x1 ∧ w.cell? ⟨g, 2, none⟩ = some x2 ∧ w.cell? ⟨g, 3, none⟩ = some x3) ∧
    (w.frozen? ⟨g, 0, none⟩ = false ∧ w.frozen? ⟨g, 1, none⟩ = false ∧ w.frozen? ⟨g, 2, none⟩ = false ∧ w.frozen? ⟨g, 3, none⟩ = false) :=
  ⟨⟨b.cell 0, b.cell 1, b.cell 2, b.cell 3⟩, b.frozen 0, b.frozen 1, b.frozen 2, b.frozen 3⟩
theorem bl_set4 {w X : World} (b : Below w.heap.size w X) {h : Nat} (hh : w.heap.size ≤ h) (x0 x1 x2 x3 : Value) :
    Below w.heap.size w ((((X.setCell ⟨h, 0, none⟩ x0).setCell ⟨h, 1, none⟩ x1).setCell ⟨h, 2, none⟩ x2).setCell ⟨h, 3, none⟩ x3) :=
  bl_set (bl_set (bl_set (bl_set b (p := ⟨h, 0, none⟩) hh x0) (p := ⟨h, 1, none⟩) hh x1) (p := ⟨h, 2, none⟩) hh x2) (p := ⟨h, 3, none⟩) hh x3
theorem Blk.keep {W w1 : World} {g : Nat} {t : TypeId} {cs : Array Value} (b : Blk W g t cs) (hb : Below W.heap.size W w1) : Blk w1 g t cs := b.below hb b.lt
end Go.Proofs.YtejbajgpiecjcaaGreat

/- Plain laws of a product word by word. -/
namespace Go.Proofs.YtejbajgpiecjcaaGreat
def pw (k : Nat) : Nat := 2 ^ (64 * k)
theorem pw_pos (k : Nat) : 0 < pw k := Nat.two_pow_pos _
theorem pw_succ (k : Nat) : pw (k + 1) = pw k * 2 ^ 64 := by unfold pw; rw [← Nat.pow_add]; congr 1
theorem pw_add (j k : Nat) : pw (j + k) = pw j * pw k := by unfold pw; rw [← Nat.pow_add]; congr 1; omega
def wd (n k : Nat) : Nat := n / pw k % 2 ^ 64
theorem lim_wd (n k : Nat) : lim n k = (wd n k : Int) := rfl
theorem wd_lt (n k : Nat) : wd n k < 18446744073709551616 := Nat.mod_lt _ (by decide)
theorem div_word (n k : Nat) : n / pw k = wd n k + 2 ^ 64 * (n / pw (k + 1)) := by
  unfold wd
  rw [pw_succ, ← Nat.div_div_eq_div_mul, Nat.add_comm]
  exact (Nat.div_add_mod _ _).symm
theorem wd_add_mul (n m j k : Nat) (h : j < k) : wd (n + m * pw k) j = wd n j := by
  unfold wd
  obtain ⟨d, rfl⟩ : ∃ d, k = j + 1 + d := ⟨k - (j + 1), by omega⟩
  have e : m * pw (j + 1 + d) = pw j * (2 ^ 64 * (m * pw d)) := by
    rw [pw_add, pw_succ]; grind
  rw [e, Nat.add_mul_div_left _ _ (pw_pos j), Nat.add_mul_mod_self_left]
def Inn (V x b i k carry : Nat) : Prop :=
  (V + x * pw i * (b % pw k)) / pw (i + k) = V / pw (i + k) + carry ∧ carry < 2 ^ 64
def TT (V x b i k : Nat) : Nat := V + x * pw i * (b % pw k)
theorem TT_succ (V x b i k : Nat) : TT V x b i (k + 1) = TT V x b i k + (x * wd b k) * pw (i + k) := by
  unfold TT wd
  have : b % pw (k + 1) = b % pw k + pw k * (b / pw k % 2 ^ 64) := by rw [pw_succ]; exact Nat.mod_mul
  rw [this, pw_add]
  grind
theorem inn_zero (V x b i : Nat) : Inn V x b i 0 0 := by
  unfold Inn
  have : b % pw 0 = 0 := by unfold pw; simp [Nat.mod_one]
  rw [this]; simp
theorem inn_step (V x b i k carry : Nat) (hx : x < 2 ^ 64) (h : Inn V x b i k carry) :
    Inn V x b i (k + 1) ((x * wd b k + wd V (i + k) + carry) / 2 ^ 64) ∧ wd (TT V x b i (k + 1)) (i + k) = (x * wd b k + wd V (i + k) + carry) % 2 ^ 64 := by
  obtain ⟨h1, h2⟩ := h
  have hy := wd_lt b k
  have hv := wd_lt V (i + k)
  have e1 : TT V x b i (k + 1) / pw (i + k) = (x * wd b k + wd V (i + k) + carry) + 2 ^ 64 * (V / pw (i + k + 1)) := by
    rw [TT_succ, Nat.add_mul_div_right _ _ (pw_pos _)]
    unfold TT
    rw [h1, div_word V (i + k)]
    omega
  refine ⟨⟨?_, ?_⟩, ?_⟩
  · show TT V x b i (k + 1) / pw (i + (k + 1)) = _
    have : i + (k + 1) = (i + k) + 1 := by omega
    rw [this, pw_succ, ← Nat.div_div_eq_div_mul, e1, Nat.add_mul_div_left _ _ (by decide), ← pw_succ]
    omega
  · have h3 : x * wd b k ≤ 18446744073709551615 * 18446744073709551615 := Nat.mul_le_mul (by omega) (by omega)
    rw [Nat.div_lt_iff_lt_mul (by decide)]
    omega
  · show TT V x b i (k + 1) / pw (i + k) % 2 ^ 64 = _
    rw [e1, Nat.add_mul_mod_self_left]
end Go.Proofs.YtejbajgpiecjcaaGreat

/- The contract of math/bits.Mul64 (the walk after the kit's own at whatever program). -/
namespace Go.Proofs.YtejbajgpiecjcaaGreat
open Go.RowKit Go.Lib
namespace Mul64
theorem maskN (a : Nat) (ha : a < 18446744073709551616) : bits .and .u64 (a : Int) 4294967295 = ((a % 4294967296 : Nat) : Int) := by
  have h := bits_and_u64_nat a 4294967295 ha (by omega)
  have e : a &&& 4294967295 = a % 4294967296 := Nat.and_two_pow_sub_one_eq_mod a 32
  rw [e] at h
  exact h
theorem divN (a : Nat) : (a : Int) / 4294967296 = ((a / 4294967296 : Nat) : Int) := by omega
theorem mulN (a b : Nat) : (a : Int) * (b : Int) = ((a * b : Nat) : Int) := (Int.natCast_mul a b).symm
theorem addN (a b : Nat) : (a : Int) + (b : Int) = ((a + b : Nat) : Int) := (Int.natCast_add a b).symm
theorem wrapN (a : Nat) (ha : a < 18446744073709551616) : IntKind.u64.wrap (a : Int) = (a : Int) := by rw [IntKind.wrap_u64]; omega
theorem wrapM (a : Nat) : IntKind.u64.wrap (a : Int) = ((a % 18446744073709551616 : Nat) : Int) := by rw [IntKind.wrap_u64]; omega
end Mul64
set_option maxHeartbeats 1000000 in
theorem mul64_any (x y : Nat) (hx : x < 18446744073709551616) (hy : y < 18446744073709551616) (w : World) :
    Calls Tryz.prog 128 #[.int .u64 x, .int .u64 y] w fun e w' => e = .returned (.tuple #[.int .u64 ((x * y / 18446744073709551616 : Nat) : Int), .int .u64 ((x * y % 18446744073709551616 : Nat) : Int)]) ∧ w' = w := by
  obtain ⟨bd, bt, bw, hhi⟩ := Lib.mul64_hi x y hx hy
  have ba := Lib.half_mul_le (a := x / 4294967296) (b := y / 4294967296) (by omega) (by omega)
  have bb := Lib.half_mul_le (a := x / 4294967296) (b := y % 4294967296) (by omega) (by omega)
  have bc := Lib.half_mul_le (a := x % 4294967296) (b := y / 4294967296) (by omega) (by omega)
  have ba' : x / 4294967296 * (y / 4294967296) < 18446744073709551616 := by omega
  have bb' : x / 4294967296 * (y % 4294967296) < 18446744073709551616 := by omega
  have bc' : x % 4294967296 * (y / 4294967296) < 18446744073709551616 := by omega
  have bh1 : x / 4294967296 * (y / 4294967296) + (x / 4294967296 * (y % 4294967296) + x % 4294967296 * (y % 4294967296) / 4294967296) / 4294967296 < 18446744073709551616 := by omega
  have bh : x / 4294967296 * (y / 4294967296) + (x / 4294967296 * (y % 4294967296) + x % 4294967296 * (y % 4294967296) / 4294967296) / 4294967296 + ((x / 4294967296 * (y % 4294967296) + x % 4294967296 * (y % 4294967296) / 4294967296) % 4294967296 + x % 4294967296 * (y / 4294967296)) / 4294967296 < 18446744073709551616 := by omega
  go_enter Tryz.func128, Tryz.ntmps128
  go_wp2
  -- the walk's numbers, folded from the inside out: each step of the school method is a natural number that does not wrap
  simp only [Mul64.maskN x hx, Mul64.maskN y hy, Mul64.divN, Mul64.mulN, Mul64.addN, Mul64.wrapN _ bd, Mul64.wrapN _ bb', Mul64.wrapN _ bt, Mul64.maskN _ bt, Mul64.wrapN _ bc', Mul64.wrapN _ bw, Mul64.wrapN _ ba', Mul64.wrapN _ bh1, Mul64.wrapN _ bh, Mul64.wrapM (x * y)]
  rw [hhi]
  go_ret2
  exact ⟨rfl, rfl⟩
end Go.Proofs.YtejbajgpiecjcaaGreat

/- The contract of wide.product. -/
namespace Go.Proofs.YtejbajgpiecjcaaGreat
open Go.RowKit
abbrev arr8 (f : Nat → Int) : Array Value := #[.int .u64 (f 0), .int .u64 (f 1), .int .u64 (f 2), .int .u64 (f 3), .int .u64 (f 4), .int .u64 (f 5), .int .u64 (f 6), .int .u64 (f 7)]
theorem arr8_get (f : Nat → Int) (k : Nat) (h : k < 8) : (arr8 f)[k]? = some (.int .u64 (f k)) := by
  match k, h with
  | 0, _ => rfl
  | 1, _ => rfl
  | 2, _ => rfl
  | 3, _ => rfl
  | 4, _ => rfl
  | 5, _ => rfl
  | 6, _ => rfl
  | 7, _ => rfl
theorem arr8_set (f : Nat → Int) (k : Nat) (h : k < 8) (x : Int) : (arr8 f).setIfInBounds k (.int .u64 x) = arr8 (upd f k x) := by
  match k, h with
  | 0, _ => rfl
  | 1, _ => rfl
  | 2, _ => rfl
  | 3, _ => rfl
  | 4, _ => rfl
  | 5, _ => rfl
  | 6, _ => rfl
  | 7, _ => rfl
theorem arr8_ext (f g : Nat → Int) (h : ∀ j, j < 8 → f j = g j) : arr8 f = arr8 g := by
  unfold arr8
  rw [h 0 (by omega), h 1 (by omega), h 2 (by omega), h 3 (by omega), h 4 (by omega), h 5 (by omega), h 6 (by omega), h 7 (by omega)]
abbrev P8 (n : Nat) : Value := .agg (arr8 (lim n))
def VV (a b i : Nat) : Nat := a % pw i * b
def mix (V x b i k : Nat) : Nat → Int := fun j => if j < i + k then lim (TT V x b i k) j else lim V j
theorem mul_at (w : World) (x y h l : Nat) (hx : x < 18446744073709551616) (hy : y < 18446744073709551616) (hh : x * y / 18446744073709551616 = h) (hl : x * y % 18446744073709551616 = l) :
    Calls Tryz.prog 128 #[.int .u64 (x : Int), .int .u64 (y : Int)] w fun e w' => e = .returned (.tuple #[.int .u64 (h : Int), .int .u64 (l : Int)]) ∧ w' = w :=
  (mul64_any x y hx hy w).mono fun e w' ⟨h1, h2⟩ => ⟨by rw [h1, hh, hl], h2⟩
theorem addc_at (x y s c : Nat) (hs : (x + y) % 18446744073709551616 = s) (hc : (x + y) / 18446744073709551616 = c) (w : World) :
    (callFunc 93 #[.int .u64 (x : Int), .int .u64 (y : Int), .int .u64 0]).run Tryz.prog w = .ok (.value (.tuple #[.int .u64 (s : Int), .int .u64 (c : Int)])) w := by
  rw [run39 x y 0 (by omega) (by omega) (by omega) (by omega) w, ← hs, ← hc]
  simp
theorem mix_step (V x b i k c S : Nat) (hx : x < 2 ^ 64) (h : Inn V x b i k c) (hS : (x * wd b k + wd V (i + k) + c) % 2 ^ 64 = S) :
    ∀ j, upd (mix V x b i k) (i + k) (S : Int) j = mix V x b i (k + 1) j := by
  intro j
  have hs := (inn_step V x b i k c hx h).2
  unfold upd mix
  by_cases hj : j = i + k
  · rw [if_pos hj, if_pos (by omega), hj, lim_wd, hs, hS]
  · rw [if_neg hj]
    by_cases hj2 : j < i + k
    · rw [if_pos hj2, if_pos (by omega), lim_wd, lim_wd, TT_succ, wd_add_mul _ _ _ _ hj2]
    · rw [if_neg hj2, if_neg (by omega)]
theorem TT_four (a b i : Nat) (hb : b < 2 ^ 256) : TT (VV a b i) (wd a i) b i 4 = VV a b (i + 1) := by
  unfold TT VV
  have h4 : b % pw 4 = b := Nat.mod_eq_of_lt hb
  have : a % pw (i + 1) = a % pw i + pw i * (a / pw i % 2 ^ 64) := by rw [pw_succ]; exact Nat.mod_mul
  rw [h4, this]
  unfold wd
  grind
theorem VV_lt (a b i : Nat) (hb : b < 2 ^ 256) : VV a b i < pw (i + 4) := by
  unfold VV
  have h1 := Nat.mod_lt a (pw_pos i)
  have e : pw (i + 4) = pw i * 2 ^ 256 := pw_add i 4
  rw [e]
  exact Nat.mul_lt_mul'' h1 hb
theorem mix_end (a b i c : Nat) (hb : b < 2 ^ 256) (h : Inn (VV a b i) (wd a i) b i 4 c) :
    ∀ j, upd (mix (VV a b i) (wd a i) b i 4) (i + 4) (c : Int) j = lim (VV a b (i + 1)) j := by
  intro j
  obtain ⟨h1, h2⟩ := h
  have ht := TT_four a b i hb
  have hv := VV_lt a b i hb
  rw [Nat.div_eq_of_lt hv] at h1
  have e : VV a b (i + 1) / pw (i + 4) = c := by rw [← ht]; unfold TT; rw [h1, Nat.zero_add]
  unfold upd mix
  by_cases hj : j = i + 4
  · rw [if_pos hj, hj, lim_wd]
    unfold wd
    rw [e, Nat.mod_eq_of_lt h2]
  · rw [if_neg hj]
    by_cases hj2 : j < i + 4
    · rw [if_pos hj2, ht]
    · rw [if_neg hj2, lim_wd, lim_wd]
      have hl1 : VV a b i < pw j := Nat.lt_of_lt_of_le hv (Nat.pow_le_pow_right (by omega) (by omega))
      have hl2 : VV a b (i + 1) < pw j := by
        have := VV_lt a b (i + 1) hb
        exact Nat.lt_of_lt_of_le this (Nat.pow_le_pow_right (by omega) (by omega))
      unfold wd
      rw [Nat.div_eq_of_lt hl1, Nat.div_eq_of_lt hl2]
theorem digits_at (x y v c h l l1 c1 l2 c2 : Nat) (hx : x < 18446744073709551616) (hy : y < 18446744073709551616) (hv : v < 18446744073709551616) (hc : c < 18446744073709551616)
    (hh : x * y / 18446744073709551616 = h) (hl : x * y % 18446744073709551616 = l) (e1 : (l + v) % 18446744073709551616 = l1) (e2 : (l + v) / 18446744073709551616 = c1)
    (e3 : (l1 + c) % 18446744073709551616 = l2) (e4 : (l1 + c) / 18446744073709551616 = c2) :
    IntKind.u64.wrap (IntKind.u64.wrap ((h : Int) + (c1 : Int)) + (c2 : Int)) = ((x * y + v + c) / 18446744073709551616 : Nat) ∧ l2 = (x * y + v + c) % 18446744073709551616 := by
  have h3 : x * y ≤ 18446744073709551615 * 18446744073709551615 := Nat.mul_le_mul (by omega) (by omega)
  generalize x * y = z at *
  rw [IntKind.wrap_u64, IntKind.wrap_u64]
  omega
end Go.Proofs.YtejbajgpiecjcaaGreat

/- The walk of wide.product. -/
namespace Go.Proofs.YtejbajgpiecjcaaGreat
open Go.RowKit
def ProdInv (N : Nat) (w : World) (a b : Nat) (i : Value) (wr : World) : Prop :=
  ∃ k : Nat, k ≤ 4 ∧ i = .int .i64 k ∧ Blk wr N 24 (Wc a) ∧ Blk wr (N + 1) 24 (Wc b) ∧ Blk wr (N + 2) 92 (arr8 fun _ => 0) ∧ Blk wr (N + 3) 92 (arr8 (lim (VV a b k))) ∧ Below N w wr
def ProdInn (N : Nat) (w : World) (a b i : Nat) (kv cv : Value) (wr : World) : Prop :=
  ∃ k c : Nat, k ≤ 4 ∧ kv = .int .i64 k ∧ cv = .int .u64 c ∧ Inn (VV a b i) (wd a i) b i k c ∧ Blk wr N 24 (Wc a) ∧ Blk wr (N + 1) 24 (Wc b) ∧ Blk wr (N + 2) 92 (arr8 fun _ => 0) ∧ Blk wr (N + 3) 92 (arr8 (mix (VV a b i) (wd a i) b i k)) ∧ Below N w wr
theorem load_blk8 {w : World} {g : Nat} {t : TypeId} {cs : Array Value} (h : Blk w g t cs) (hs : cs.size = 8) : (loadVar 92 ⟨g, 0, none⟩).run Tryz.prog w = .ok (.agg cs) w :=
  run_loadVar_row w g t 92 cs (0, 0) _ h Tryz.underlying92 rfl (by rw [hs]; kernel_rfl)
theorem results_c8 {fn : Func} {p : Tmp} {tmps : Array Value} {w : World} {g : Nat} {t : TypeId} {cs : Array Value} (h : fn.results = #[.cell p 92]) (hp : tmps.getD p undef = .pointer (some ⟨g, 0, none⟩)) (hb : Blk w g t cs) (hs : cs.size = 8) :
    (results fn tmps).run Tryz.prog w = .ok (.agg cs) w := by
  have hp' : tmps[p]?.getD undef = .pointer (some ⟨g, 0, none⟩) := by simpa using hp
  simp [results, h, hp', asAddr, load_blk8 hb hs]
theorem Blk.fill8 {w : World} {g : Nat} {t : TypeId} {f : Nat → Int} (h : Blk w g t (arr8 f)) (x0 x1 x2 x3 x4 x5 x6 x7 : Int) :
    Blk ((((((((w.setCell ⟨g, 0, none⟩ (.int .u64 x0)).setCell ⟨g, 1, none⟩ (.int .u64 x1)).setCell ⟨g, 2, none⟩ (.int .u64 x2)).setCell ⟨g, 3, none⟩ (.int .u64 x3)).setCell ⟨g, 4, none⟩ (.int .u64 x4)).setCell ⟨g, 5, none⟩ (.int .u64 x5)).setCell ⟨g, 6, none⟩ (.int .u64 x6)).setCell ⟨g, 7, none⟩ (.int .u64 x7)) g t
      #[.int .u64 x0, .int .u64 x1, .int .u64 x2, .int .u64 x3, .int .u64 x4, .int .u64 x5, .int .u64 x6, .int .u64 x7] := by
  have h0 := h.set_ 0 (.int .u64 x0)
  rw [arr8_set f 0 (by omega)] at h0
  have h1 := h0.set_ 1 (.int .u64 x1)
  rw [arr8_set _ 1 (by omega)] at h1
  have h2 := h1.set_ 2 (.int .u64 x2)
  rw [arr8_set _ 2 (by omega)] at h2
  have h3 := h2.set_ 3 (.int .u64 x3)
  rw [arr8_set _ 3 (by omega)] at h3
  have h4 := h3.set_ 4 (.int .u64 x4)
  rw [arr8_set _ 4 (by omega)] at h4
  have h5 := h4.set_ 5 (.int .u64 x5)
  rw [arr8_set _ 5 (by omega)] at h5
  have h6 := h5.set_ 6 (.int .u64 x6)
  rw [arr8_set _ 6 (by omega)] at h6
  have h7 := h6.set_ 7 (.int .u64 x7)
  rw [arr8_set _ 7 (by omega)] at h7
  exact h7
set_option maxHeartbeats 2000000 in
theorem product_any (w : World) (a b : Nat) (ha : a < 2 ^ 256) (hb : b < 2 ^ 256) :
    Calls Tryz.prog 94 #[W a, W b] w fun e w' => e = .returned (P8 (a * b)) ∧ Below w.heap.size w w' := by
  have HA := Lib.hid ha
  have HB := Lib.hid hb
  clear ha hb
  go_enter Tryz.func94, Tryz.ntmps94
  go_wp2
  go_loopw [12] (fun i wr => ProdInv w.heap.size w a b i wr) (fun i _ => 4 - (intOf i).toNat)
  case atStart =>
    refine ⟨0, by omega, rfl, ?_, ?_, ?_, ?_, ?_⟩
    · exact (((Blk.new w _ _ _ rfl).alloc _).alloc _).alloc _
    · exact ((Blk.new _ _ _ _ (by simp)).alloc _).alloc _
    · exact (Blk.new _ _ _ _ (by simp)).alloc _
    · have : arr8 (lim (VV a b 0)) = arr8 fun _ => 0 := by
        apply arr8_ext
        intro j _
        unfold VV pw lim
        simp [Nat.mod_one]
      rw [this]
      exact Blk.new _ _ _ _ (by simp)
    · exact bl_al (bl_al (bl_al (bl_al (Below.refl _ _) _) _) _) _
  case round =>
    obtain ⟨i, hi, rfl, b0, b1, b2, b3, hbl⟩ := hrel
    by_cases hlt : i < 4
    · have K0 := Lib.hid b0
      have K1 := Lib.hid b1
      have K2 := Lib.hid b2
      have K3 := Lib.hid b3
      have KB := Lib.hid hbl
      clear b0 b1 b2 b3 hbl
      go_wp2
      rw [show decide ((i : Int) < 4) = true from decide_eq_true (by omega)]
      go_loopw [15, 7] (fun k c wx => ProdInn w.heap.size w a b i k c wx) (fun k _ _ => 4 - (intOf k).toNat)
      case atStart => 
        refine ⟨0, 0, by omega, rfl, rfl, inn_zero _ _ _ _, K0.out, K1.out, K2.out, ?_, KB.out⟩
        have : arr8 (mix (VV a b i) (wd a i) b i 0) = arr8 (lim (VV a b i)) := by
          apply arr8_ext
          intro j _
          unfold mix TT pw
          simp [Nat.mod_one]
        rw [this]
        exact K3.out
      case round =>
        clear K0 K1 K2 K3 KB
        obtain ⟨k, c, hk, rfl, rfl, hinn, b0, b1, b2, b3, hbl⟩ := hrel
        by_cases hk4 : k < 4
        · obtain ⟨x, hx⟩ : ∃ x, wd a i = x := ⟨_, rfl⟩
          obtain ⟨y, hy⟩ : ∃ y, wd b k = y := ⟨_, rfl⟩
          have hx2 : x < 18446744073709551616 := by rw [← hx]; exact wd_lt _ _
          have hy2 : y < 18446744073709551616 := by rw [← hy]; exact wd_lt _ _
          have hc2 : c < 18446744073709551616 := hinn.2
          obtain ⟨v, hv⟩ : ∃ v, wd (VV a b i) (i + k) = v := ⟨_, rfl⟩
          have hv2 : v < 18446744073709551616 := by rw [← hv]; exact wd_lt _ _
          obtain ⟨h, hh⟩ : ∃ h, x * y / 18446744073709551616 = h := ⟨_, rfl⟩
          obtain ⟨l, hl⟩ : ∃ l, x * y % 18446744073709551616 = l := ⟨_, rfl⟩
          obtain ⟨l1, e1⟩ : ∃ z, (l + v) % 18446744073709551616 = z := ⟨_, rfl⟩
          obtain ⟨c1, e2⟩ : ∃ z, (l + v) / 18446744073709551616 = z := ⟨_, rfl⟩
          obtain ⟨l2, e3⟩ : ∃ z, (l1 + c) % 18446744073709551616 = z := ⟨_, rfl⟩
          obtain ⟨c2, e4⟩ : ∃ z, (l1 + c) / 18446744073709551616 = z := ⟨_, rfl⟩
          obtain ⟨hc', hl'⟩ := digits_at x y v c h l l1 c1 l2 c2 hx2 hy2 hv2 hc2 hh hl e1 e2 e3 e4
          have a0 : wr.cell? ⟨w.heap.size, i, none⟩ = some (.int .u64 (x : Int)) := by rw [b0.cell, arr_get (lim a) i hlt, lim_wd, hx]
          have a1 : wr.cell? ⟨w.heap.size + 1, k, none⟩ = some (.int .u64 (y : Int)) := by rw [b1.cell, arr_get (lim b) k hk4, lim_wd, hy]
          have hm : mix (VV a b i) x b i k (i + k) = (v : Int) := by unfold mix; rw [if_neg (by omega), lim_wd, hv]
          rw [hx] at b3 hinn
          have a3 : wr.cell? ⟨w.heap.size + 3, i + k, none⟩ = some (.int .u64 (v : Int)) := by rw [b3.cell, arr8_get _ (i + k) (by omega), hm]
          have f3 : wr.frozen? ⟨w.heap.size + 3, i + k, none⟩ = false := b3.frozen _
          have HM := fun w => Lib.hid (mul_at w x y h l hx2 hy2 hh hl)
          have r1 := addc_at l v l1 c1 e1 e2
          have r2 := addc_at l1 c l2 c2 e3 e4
          have HX := Lib.hid hx
          have HY := Lib.hid hy
          have HV := Lib.hid hv
          have HI := Lib.hid hinn
          have HCE := Lib.hid hc'
          have HLE := Lib.hid hl'
          have K0 := Lib.hid b0
          have K1 := Lib.hid b1
          have K2 := Lib.hid b2
          have K3 := Lib.hid b3
          have KB := Lib.hid hbl
          clear hx hy hv hinn hc' hl' hm hh hl e1 e2 e3 e4 b0 b1 b2 b3 hbl
          have r1' := fun w => Lib.hid (r1 w)
          have r2' := fun w => Lib.hid (r2 w)
          clear r1 r2
          go_upto_region 9 with (fail)
          go_cut [9, 10] (fun hv lv wx => hv = .int .u64 (h : Int) ∧ lv = .int .u64 (l : Int) ∧ Blk wx w.heap.size 24 (Wc a) ∧ Blk wx (w.heap.size + 1) 24 (Wc b) ∧ Blk wx (w.heap.size + 2) 92 (arr8 fun _ => 0) ∧ Blk wx (w.heap.size + 3) 92 (arr8 (mix (VV a b i) x b i k)) ∧ Below w.heap.size w wx)
          case first =>
            go_region_with (go_at_call 128; refine (HM _).out.mono ?_; rintro e w2 ⟨rfl, rfl⟩)
            all_goals (go_wp2_with fail; go_meet; exact ⟨rfl, rfl, K0.out.drew, K1.out.drew, K2.out.drew, K3.out.drew, KB.out.drew⟩)
          case rest =>
            obtain ⟨rfl, rfl, b0, b1, b2, b3, hbl⟩ := hcut
            clear a0 a1 a3 f3 K0 K1 K2 K3 KB
            have K0 := Lib.hid b0
            have K1 := Lib.hid b1
            have K2 := Lib.hid b2
            have K3 := Lib.hid b3
            have KB := Lib.hid hbl
            have HVV : Hid (mix (VV a b i) x b i k (i + k) = (v : Int)) := by unfold Hid mix; rw [if_neg (by omega), lim_wd, HV.out]
            have a3 : wc.cell? ⟨w.heap.size + 3, i + k, none⟩ = some (.int .u64 (v : Int)) := by rw [b3.cell, arr8_get _ (i + k) (by omega), HVV.out]
            have f3 : wc.frozen? ⟨w.heap.size + 3, i + k, none⟩ = false := b3.frozen _
            have r1 := fun w => (r1' w).out
            have r2 := fun w => (r2' w).out
            clear b0 b1 b2 b3 hbl HM r1' r2'
            go_wp2_with fail
            go_roundw
            case rel =>
              refine ⟨k + 1, _, by omega, by go_num, by rw [HCE.out], ?_, K0.out.far (by simp <;> omega) _, K1.out.far (by simp <;> omega) _, K2.out.far (by simp <;> omega) _, ?_, KB.out.setCell (by simp <;> omega) _⟩
              · have hs := (inn_step (VV a b i) x b i k c hx2 HI.out).1
                rw [HY.out, HV.out] at hs
                rw [HX.out]
                exact hs
              · rw [HX.out, ← arr8_ext _ _ (fun j _ => mix_step (VV a b i) x b i k c l2 hx2 HI.out (by rw [HY.out, HV.out]; exact HLE.out.symm) j), ← arr8_set _ (i + k) (by omega)]
                exact K3.out.set_ (i + k) _
            case measure => simp [intOf] <;> omega
        · obtain rfl : k = 4 := by omega
          have a3 : wr.cell? ⟨w.heap.size + 3, i + 4, none⟩ = some (.int .u64 (mix (VV a b i) (wd a i) b i 4 (i + 4))) := by rw [b3.cell, arr8_get _ (i + 4) (by omega)]
          have f3 : wr.frozen? ⟨w.heap.size + 3, i + 4, none⟩ = false := b3.frozen _
          have HI := Lib.hid hinn
          have K0 := Lib.hid b0
          have K1 := Lib.hid b1
          have K2 := Lib.hid b2
          have K3 := Lib.hid b3
          have KB := Lib.hid hbl
          clear hinn b0 b1 b2 b3 hbl
          go_wp2_with fail
          go_roundw
          case rel =>
            refine ⟨i + 1, by omega, by go_num, K0.out.far (by simp <;> omega) _, K1.out.far (by simp <;> omega) _, K2.out.far (by simp <;> omega) _, ?_, KB.out.setCell (by simp <;> omega) _⟩
            rw [← arr8_ext _ _ (fun j _ => mix_end a b i c HB.out HI.out j), ← arr8_set _ (i + 4) (by omega)]
            exact K3.out.set_ (i + 4) _
          case measure => simp [intOf] <;> omega
    · obtain rfl : i = 4 := by omega
      have hab : VV a b 4 = a * b := by unfold VV; rw [show pw 4 = 2 ^ 256 from rfl, Nat.mod_eq_of_lt HA.out]
      rw [hab] at b3
      have K2 := Lib.hid b2
      have KB := Lib.hid hbl
      have c0 := b3.cell 0
      have c1 := b3.cell 1
      have c2 := b3.cell 2
      have c3 := b3.cell 3
      have c4 := b3.cell 4
      have c5 := b3.cell 5
      have c6 := b3.cell 6
      have c7 := b3.cell 7
      have d0 := b2.cell 0
      have d1 := b2.cell 1
      have d2 := b2.cell 2
      have d3 := b2.cell 3
      have d4 := b2.cell 4
      have d5 := b2.cell 5
      have d6 := b2.cell 6
      have d7 := b2.cell 7
      have f0 := b2.frozen 0
      have f1 := b2.frozen 1
      have f2 := b2.frozen 2
      have f3 := b2.frozen 3
      have f4 := b2.frozen 4
      have f5 := b2.frozen 5
      have f6 := b2.frozen 6
      have f7 := b2.frozen 7
      clear b0 b1 b2 b3 hbl hab
      go_wp2
      refine bodyPost_ret (results_c8 rfl rfl (K2.out.fill8 _ _ _ _ _ _ _ _) rfl) rfl ⟨rfl, (((((((KB.out.setCell (by simp <;> omega) _).setCell (by simp <;> omega) _).setCell (by simp <;> omega) _).setCell (by simp <;> omega) _).setCell (by simp <;> omega) _).setCell (by simp <;> omega) _).setCell (by simp <;> omega) _).setCell (by simp <;> omega) _⟩
end Go.Proofs.YtejbajgpiecjcaaGreat

/- The contract of wide.Mul. -/
namespace Go.Proofs.YtejbajgpiecjcaaGreat
open Go.RowKit
theorem prod_at (w : World) (a b p : Nat) (ha : a < 2 ^ 256) (hb : b < 2 ^ 256) (hp : a * b = p) :
    Calls Tryz.prog 94 #[W a, W b] w fun e w' => e = .returned (P8 p) ∧ Below w.heap.size w w' :=
  (product_any w a b ha hb).mono fun e w' ⟨h1, h2⟩ => ⟨by rw [h1, hp], h2⟩
theorem arrayAt_wide (a : Option Addr) (len cap : Nat) (hn : 4 ≤ len) (w : World) : (Instr.arrayAt 24 (.slice a len cap)).run Tryz.prog w = .ok (.pointer a) w :=
  run_arrayAt w 24 _ 4 a len cap Tryz.underlying24 hn
theorem lim_up (p k : Nat) : lim (p / 2 ^ 256) k = lim p (k + 4) := by
  unfold lim
  rw [Nat.div_div_eq_div_mul, ← Nat.pow_add, show 256 + 64 * k = 64 * (k + 4) by omega]
def mulV (p : Nat) : Value := .tuple #[W p, W (p / 2 ^ 256)]
theorem mulV_eq (p : Nat) : mulV p = .tuple #[W p, .agg #[.int .u64 (lim p 4), .int .u64 (lim p 5), .int .u64 (lim p 6), .int .u64 (lim p 7)]] := by
  unfold mulV
  rw [show W (p / 2 ^ 256) = .agg #[.int .u64 (lim p 4), .int .u64 (lim p 5), .int .u64 (lim p 6), .int .u64 (lim p 7)] by
    unfold W; rw [lim_up p 0, lim_up p 1, lim_up p 2, lim_up p 3]]
set_option maxHeartbeats 2000000 in
theorem mul_any (w : World) (a b : Nat) (ha : a < 2 ^ 256) (hb : b < 2 ^ 256) :
    Calls Tryz.prog 52 #[W a, W b] w fun e w' => e = .returned (mulV (a * b)) ∧ Below w.heap.size w w' := by
  obtain ⟨p, hp⟩ : ∃ p, a * b = p := ⟨_, rfl⟩
  rw [hp]
  have HP := fun w => Lib.hid (prod_at w a b p ha hb hp)
  clear ha hb hp
  go_enter Tryz.func52, Tryz.ntmps52
  go_wp2_with fail
  refine (HP _).out.mono ?_
  rintro e w1 ⟨rfl, hb1⟩
  have hlt1 : w.heap.size + 4 ≤ w1.heap.size := by have := hb1.size; simp at this; omega
  have B2 : Hid (Blk w1 (w.heap.size + 2) 24 (arr fun _ => 0)) := ((Blk.new _ _ _ _ (by simp)).alloc _).keep hb1
  have B3 : Hid (Blk w1 (w.heap.size + 3) 24 (arr fun _ => 0)) := (Blk.new _ _ _ _ (by simp)).keep hb1
  have HB : Hid (Below w.heap.size w w1) := bl_tr (bl_al (bl_al (bl_al (bl_al (Below.refl _ _) _) _) _) _) hb1
  clear hb1
  go_wp2_with fail
  have b4 : Blk (w1.alloc (.cells (arr8 (lim p)) 92)) w1.heap.size 92 (arr8 (lim p)) := Blk.new _ _ _ _ rfl
  have b2 : Blk (w1.alloc (.cells (arr8 (lim p)) 92)) (w.heap.size + 2) 24 (arr fun _ => 0) := B2.out.alloc _
  have b3 : Blk (w1.alloc (.cells (arr8 (lim p)) 92)) (w.heap.size + 3) 24 (arr fun _ => 0) := B3.out.alloc _
  have hb : Below w.heap.size w (w1.alloc (.cells (arr8 (lim p)) 92)) := bl_al HB.out _
  obtain ⟨w2, hw2⟩ : ∃ w2, w1.alloc (.cells (arr8 (lim p)) 92) = w2 := ⟨_, rfl⟩
  rw [hw2] at b2 b3 b4 hb
  rw [hw2]
  obtain ⟨g, hg⟩ : ∃ g, w1.heap.size = g := ⟨_, rfl⟩
  rw [hg] at b4 hlt1
  rw [hg]
  clear hw2 B2 B3 HB hg HP
  have K2 := Lib.hid b2
  have K3 := Lib.hid b3
  have K4 := Lib.hid b4
  have KB := Lib.hid hb
  obtain ⟨⟨r0, r1, r2, r3⟩, f0, f1, f2, f3⟩ := b2.facts
  obtain ⟨⟨s0, s1, s2, s3⟩, g0, g1, g2, g3⟩ := b3.facts
  have c0 := b4.cell 0
  have c1 := b4.cell 1
  have c2 := b4.cell 2
  have c3 := b4.cell 3
  have c4 := b4.cell 4
  have c5 := b4.cell 5
  have c6 := b4.cell 6
  have c7 := b4.cell 7
  clear b2 b3 b4 hb
  have ha0 := fun w => arrayAt_wide (some ⟨g, 0, none⟩) 4 8 (by omega) w
  have ha1 := fun w => arrayAt_wide (some ⟨g, 4, none⟩) 4 4 (by omega) w
  go_region
  all_goals go_wp2
  refine bodyPost_ret (results_cc rfl rfl ((K2.out.fill rfl _ _ _ _).far4 (by omega) _ _ _ _).drew rfl rfl ((K3.out.far4 (by omega) _ _ _ _).fill rfl _ _ _ _).drew rfl) rfl ⟨?_, (bl_set4 (bl_set4 KB.out (by omega) _ _ _ _) (by omega) _ _ _ _).drew⟩
  rw [mulV_eq]
end Go.Proofs.YtejbajgpiecjcaaGreat

/- '==' on numbers of 256 bits. -/
namespace Go.Proofs.YtejbajgpiecjcaaGreat
open Go.RowKit
theorem lim_inj (a b : Nat) (ha : a < 2 ^ 256) (hb : b < 2 ^ 256) (h0 : lim a 0 = lim b 0) (h1 : lim a 1 = lim b 1) (h2 : lim a 2 = lim b 2) (h3 : lim a 3 = lim b 3) : a = b := by
  unfold lim at *
  omega
theorem part_u64 (cs : Array Value) (i : Nat) (v : Value) (h : cs[i]? = some v) (w : World) : (part 22 cs i).run Tryz.prog w = .ok v w := by
  have ha : (isAgg 22).run Tryz.prog w = .ok false w := by
    unfold isAgg
    rw [Sem.run_bind, run_underlying Tryz.underlying22 w]
    rfl
  simp [part, Sem.run_bind, ha, Result.andThen, h]
theorem size_u64 (w : World) : (sizeOf 22).run Tryz.prog w = .ok 1 w := by kernel_rfl
theorem run_equalIn4' (d : Nat) (hd : ∀ (a b : Int) (w : World), (Op.equalIn d 22 (.int .u64 a) (.int .u64 b)).run Tryz.prog w = .ok (a == b) w) (x0 x1 x2 x3 y0 y1 y2 y3 : Int) (w : World) :
    (Op.equalIn (d + 1) 24 (.agg #[.int .u64 x0, .int .u64 x1, .int .u64 x2, .int .u64 x3]) (.agg #[.int .u64 y0, .int .u64 y1, .int .u64 y2, .int .u64 y3])).run Tryz.prog w = .ok (x0 == y0 && (x1 == y1 && (x2 == y2 && x3 == y3))) w := by
  have e : List.range' 0 4 1 = [0, 1, 2, 3] := rfl
  simp only [Op.equalIn, Sem.run_bind, run_underlying Tryz.underlying24, Result.andThen_ok, size_u64]
  simp only [Std.Legacy.Range.forIn_eq_forIn_range', Std.Legacy.Range.size, Nat.sub_zero, Nat.add_sub_cancel, Nat.div_one, e, List.forIn_cons, List.forIn_nil, Sem.run_bind, Nat.mul_one]
  have q : ∀ (a0 a1 a2 a3 : Int) (w : World), (part 22 #[.int .u64 a0, .int .u64 a1, .int .u64 a2, .int .u64 a3] 0).run Tryz.prog w = .ok (.int .u64 a0) w ∧
      (part 22 #[.int .u64 a0, .int .u64 a1, .int .u64 a2, .int .u64 a3] 1).run Tryz.prog w = .ok (.int .u64 a1) w ∧
      (part 22 #[.int .u64 a0, .int .u64 a1, .int .u64 a2, .int .u64 a3] 2).run Tryz.prog w = .ok (.int .u64 a2) w ∧
      (part 22 #[.int .u64 a0, .int .u64 a1, .int .u64 a2, .int .u64 a3] 3).run Tryz.prog w = .ok (.int .u64 a3) w :=
    fun a0 a1 a2 a3 w => ⟨part_u64 _ _ _ rfl w, part_u64 _ _ _ rfl w, part_u64 _ _ _ rfl w, part_u64 _ _ _ rfl w⟩
  obtain ⟨p0, p1, p2, p3⟩ := q x0 x1 x2 x3 w
  obtain ⟨q0, q1, q2, q3⟩ := q y0 y1 y2 y3 w
  rw [p0]
  simp only [Result.andThen_ok, q0, hd]
  cases h0 : (x0 == y0)
  · simp
  · simp only [Bool.not_true, Bool.false_eq_true, if_false, Sem.run_pure, Result.andThen_ok, Bool.true_and, p1, q1, hd, Sem.run_bind]
    cases h1 : (x1 == y1)
    · simp
    · simp only [Bool.not_true, Bool.false_eq_true, if_false, Sem.run_pure, Result.andThen_ok, Bool.true_and, p2, q2, hd, Sem.run_bind]
      cases h2 : (x2 == y2)
      · simp
      · simp only [Bool.not_true, Bool.false_eq_true, if_false, Sem.run_pure, Result.andThen_ok, Bool.true_and, p3, q3, hd, Sem.run_bind]
        cases h3 : (x3 == y3) <;> simp
theorem run_eqlW (x0 x1 x2 x3 y0 y1 y2 y3 : Int) (w : World) :
    (binOp .eql 24 (.agg #[.int .u64 x0, .int .u64 x1, .int .u64 x2, .int .u64 x3]) (.agg #[.int .u64 y0, .int .u64 y1, .int .u64 y2, .int .u64 y3])).run Tryz.prog w = .ok (.bool (x0 == y0 && (x1 == y1 && (x2 == y2 && x3 == y3)))) w := by
  have := run_equalIn4' 9999 (fun a b w => run_equalIn_int w 9998 22 .u64 .u64 a b Tryz.underlying22) x0 x1 x2 x3 y0 y1 y2 y3 w
  simp only [binOp, Sem.run_bind, Op.equal, Op.maxDepth]
  rw [this]
  rfl
theorem run_neqW (x0 x1 x2 x3 y0 y1 y2 y3 : Int) (w : World) :
    (binOp .neq 24 (.agg #[.int .u64 x0, .int .u64 x1, .int .u64 x2, .int .u64 x3]) (.agg #[.int .u64 y0, .int .u64 y1, .int .u64 y2, .int .u64 y3])).run Tryz.prog w = .ok (.bool (!(x0 == y0 && (x1 == y1 && (x2 == y2 && x3 == y3))))) w := by
  have := run_equalIn4' 9999 (fun a b w => run_equalIn_int w 9998 22 .u64 .u64 a b Tryz.underlying22) x0 x1 x2 x3 y0 y1 y2 y3 w
  simp only [binOp, Sem.run_bind, Op.equal, Op.maxDepth]
  rw [this]
  rfl
theorem eqb (a b : Nat) (ha : a < 2 ^ 256) (hb : b < 2 ^ 256) : (lim a 0 == lim b 0 && (lim a 1 == lim b 1 && (lim a 2 == lim b 2 && lim a 3 == lim b 3))) = decide (a = b) := by
  by_cases h : a = b
  · subst h; simp
  · rw [decide_eq_false h]
    refine Bool.eq_false_iff.2 fun hc => h ?_
    simp only [Bool.and_eq_true, beq_iff_eq] at hc
    exact lim_inj a b ha hb hc.1 hc.2.1 hc.2.2.1 hc.2.2.2
theorem eqlW (a b : Nat) (ha : a < 2 ^ 256) (hb : b < 2 ^ 256) (c : Bool) (hc : decide (a = b) = c) (w : World) : (binOp .eql 24 (W a) (W b)).run Tryz.prog w = .ok (.bool c) w := by
  rw [run_eqlW, eqb a b ha hb, hc]
theorem neqW (a b : Nat) (ha : a < 2 ^ 256) (hb : b < 2 ^ 256) (c : Bool) (hc : decide (a ≠ b) = c) (w : World) : (binOp .neq 24 (W a) (W b)).run Tryz.prog w = .ok (.bool c) w := by
  rw [run_neqW, eqb a b ha hb, ← hc]
  by_cases h : a = b <;> simp [h]
end Go.Proofs.YtejbajgpiecjcaaGreat

/- The order of the curve; sums, products modulo it, by the ways the program takes. No program here. -/
namespace Go.Proofs.YtejbajgpiecjcaaGreat
open Go.RowKit
def Nord : Nat := 115792089237316195423570985008687907852837564279074904382605163141518161494337
def Nov : Nat := 432420386565659656852420866394968145599
theorem Nord_lt : Nord < 2 ^ 256 := by decide
theorem Nov_lt : Nov < 2 ^ 256 := by decide
theorem Nord_big : 2 ^ 255 < Nord := by decide
theorem Nov_eq : Nord + Nov = 2 ^ 256 := by decide
theorem add_at (w : World) (a b d c : Nat) (ha : a < 2 ^ 256) (hb : b < 2 ^ 256) (hd : (a + b) % 2 ^ 256 = d) (hc : (a + b) / 2 ^ 256 = c) :
    Calls Tryz.prog 50 #[W a, W b] w fun e w' => e = .returned (.tuple #[W d, .int .u64 (c : Int)]) ∧ Below w.heap.size w w' :=
  (add_any w a b ha hb).mono fun e w' ⟨h1, h2⟩ => ⟨by rw [h1, hd, hc], h2⟩
theorem mul_hi {a b : Nat} (ha : a < 2 ^ 256) (hb : b < 2 ^ 256) : a * b / 2 ^ 256 < 2 ^ 256 := by
  rw [Nat.div_lt_iff_lt_mul (Nat.two_pow_pos 256)]
  exact Nat.mul_lt_mul'' ha hb
theorem wmul_at (w : World) (a b l h : Nat) (ha : a < 2 ^ 256) (hb : b < 2 ^ 256) (hl : a * b % 2 ^ 256 = l) (hh : a * b / 2 ^ 256 = h) :
    Calls Tryz.prog 52 #[W a, W b] w fun e w' => e = .returned (.tuple #[W l, W h]) ∧ Below w.heap.size w w' :=
  (mul_any w a b ha hb).mono fun e w' ⟨h1, h2⟩ => ⟨by rw [h1]; unfold mulV; rw [← hl, ← hh, W_mod], h2⟩
theorem red_no {a c : Nat} (hc : bor a Nord = c) (h : decide (c = 0) = false) : a = a % Nord := by
  unfold bor at hc
  have : c ≠ 0 := of_decide_eq_false h
  split at hc
  · exact (Nat.mod_eq_of_lt (by assumption)).symm
  · omega
theorem red_yes {a c d : Nat} (ha : a < 2 ^ 256) (hd : (a + 2 ^ 256 - Nord) % 2 ^ 256 = d) (hc : bor a Nord = c) (h : decide (c = 0) = true) : d = a % Nord := by
  have h1 := Nord_big
  have h2 := Nord_lt
  unfold bor at hc
  have h0 : c = 0 := of_decide_eq_true h
  split at hc
  · omega
  · rw [Nat.mod_eq_sub_mod (by omega), Nat.mod_eq_of_lt (a := a - Nord) (by omega), ← hd]
    have e : a + 2 ^ 256 - Nord = (a - Nord) + 2 ^ 256 := by omega
    rw [e, Nat.add_mod_right, Nat.mod_eq_of_lt (by omega)]
theorem add_no {a b s c : Nat} (hs : (a % Nord + b % Nord) % 2 ^ 256 = s) (hc : (a % Nord + b % Nord) / 2 ^ 256 = c) (h : decide (c ≠ 0) = false) : s % Nord = (a + b) % Nord := by
  have h0 : c = 0 := Classical.not_not.1 (of_decide_eq_false h)
  have h2 : a % Nord + b % Nord < 2 ^ 256 := by
    rcases Nat.lt_or_ge (a % Nord + b % Nord) (2 ^ 256) with h | h
    · exact h
    · have := Nat.div_pos h (Nat.two_pow_pos 256); omega
  rw [← hs, Nat.mod_eq_of_lt h2, ← Nat.add_mod]
theorem add_yes {a b s c t : Nat} (hs : (a % Nord + b % Nord) % 2 ^ 256 = s) (hc : (a % Nord + b % Nord) / 2 ^ 256 = c) (ht : (s + Nov) % 2 ^ 256 = t) (h : decide (c ≠ 0) = true) : t % Nord = (a + b) % Nord := by
  have h0 : c ≠ 0 := of_decide_eq_true h
  have l1 := Nat.mod_lt a (show 0 < Nord by decide)
  have l2 := Nat.mod_lt b (show 0 < Nord by decide)
  have hN := Nord_lt
  have hE := Nov_eq
  rw [Nat.add_mod a b]
  generalize a % Nord = x at *
  generalize b % Nord = y at *
  have hge : 2 ^ 256 ≤ x + y := by
    rcases Nat.lt_or_ge (x + y) (2 ^ 256) with h | h
    · have := Nat.div_eq_of_lt h; omega
    · exact h
  have e1 : s = x + y - 2 ^ 256 := by
    rw [← hs, Nat.mod_eq_sub_mod hge, Nat.mod_eq_of_lt (by omega)]
  have e2 : t = x + y - Nord := by
    rw [← ht, Nat.mod_eq_of_lt (by omega)]
    omega
  rw [e2, ← Nat.mod_eq_sub_mod (by omega)]
theorem neg_eq {a d : Nat} (hd : (Nord + 2 ^ 256 - a % Nord) % 2 ^ 256 = d) : d % Nord = (Nord - a % Nord) % Nord := by
  have l1 := Nat.mod_lt a (show 0 < Nord by decide)
  have hN := Nord_lt
  rw [← hd, show Nord + 2 ^ 256 - a % Nord = (Nord - a % Nord) + 2 ^ 256 by omega, Nat.add_mod_right, Nat.mod_eq_of_lt (a := Nord - a % Nord) (b := 2 ^ 256) (by omega)]
theorem fold_eq {lo hi f t s c h2 : Nat} (l2 : hi < 2 ^ 256) (hf : hi * Nov % 2 ^ 256 = f) (ht : hi * Nov / 2 ^ 256 = t) (hs : (lo + f) % 2 ^ 256 = s) (hc : (lo + f) / 2 ^ 256 = c) (hh : (t + c) % 2 ^ 256 = h2) (l1 : lo < 2 ^ 256) :
    s + 2 ^ 256 * h2 = lo + hi * Nov := by
  have e1 := Nat.div_add_mod (hi * Nov) (2 ^ 256)
  have e2 := Nat.div_add_mod (lo + f) (2 ^ 256)
  rw [hf, ht] at e1
  rw [hs, hc] at e2
  have lf : f < 2 ^ 256 := by rw [← hf]; exact Nat.mod_lt _ (Nat.two_pow_pos 256)
  have hprod : hi * Nov < 2 ^ 256 * Nov := Nat.mul_lt_mul_of_pos_right l2 (by decide)
  have lt : t < Nov := by
    rw [← ht, Nat.div_lt_iff_lt_mul (Nat.two_pow_pos 256), Nat.mul_comm Nov]
    exact hprod
  have lc : c ≤ 1 := by omega
  have : t + c < 2 ^ 256 := by have := Nov_lt; omega
  rw [Nat.mod_eq_of_lt this] at hh
  rw [← hh, Nat.mul_add]
  omega
theorem fold_mod {lo hi s h2 : Nat} (h : s + 2 ^ 256 * h2 = lo + hi * Nov) : (s + 2 ^ 256 * h2) % Nord = (lo + 2 ^ 256 * hi) % Nord := by
  rw [h, ← Nov_eq, Nat.add_mul, ← Nat.add_assoc, Nat.add_right_comm, Nat.mul_comm Nov hi, Nat.add_mul_mod_self_left]
theorem fold_less {lo hi s h2 : Nat} (h : s + 2 ^ 256 * h2 = lo + hi * Nov) (hp : hi ≠ 0) : s + 2 ^ 256 * h2 < lo + 2 ^ 256 * hi := by
  rw [h, Nat.mul_comm (2 ^ 256)]
  have : hi * Nov < hi * 2 ^ 256 := Nat.mul_lt_mul_of_pos_left Nov_lt (by omega)
  omega
theorem c_lt64 {a b c : Nat} (h : (a + b) / 2 ^ 256 = c) (ha : a < 2 ^ 256) (hb : b < 2 ^ 256) : c < 2 ^ 64 := by omega
theorem c_lt256 {a b c : Nat} (h : (a + b) / 2 ^ 256 = c) (ha : a < 2 ^ 256) (hb : b < 2 ^ 256) : c < 2 ^ 256 := by omega
end Go.Proofs.YtejbajgpiecjcaaGreat

/- Words of sums and differences, as the references reckon them. No program here. -/
namespace Go.Proofs.YtejbajgpiecjcaaGreat
theorem brw_zero (a b : Nat) : brw a b 0 = 0 := by unfold brw; simp [Nat.mod_one]
theorem cry_zero (a b : Nat) : cry a b 0 = 0 := by unfold cry; simp [Nat.mod_one]
theorem less_c {a b c k e : Nat} (hc0 : c ≤ 1) (hcb : c = brw a b k) (h : e = if limN a k < limN b k + c then 1 else 0) : e = brw a b (k + 1) := by
  rw [← brw_step2, h, hcb]; rfl
theorem less_f {a b c k : Nat} {f : Nat → Nat} (hb : b < 2 ^ 256) (hk : k < 4) (hc0 : c ≤ 1) (hcb : c = brw a b k) (hf : ∀ j, j < k → f j = limN (a + 2 ^ 256 - b) j) :
    ∀ j, j < k + 1 → upn f k (((limN a k + 18446744073709551616 - limN b k) % 18446744073709551616 + 18446744073709551616 - c) % 18446744073709551616) j = limN (a + 2 ^ 256 - b) j := by
  intro j hj
  unfold upn
  by_cases hjk : j = k
  · subst hjk
    rw [if_pos rfl]
    have h := brw_step1 a b j hb hk
    have h1 := limN_lt a j
    have h2 := limN_lt b j
    unfold limN at *
    rw [← h, ← hcb]
    omega
  · rw [if_neg hjk]; exact hf j (by omega)
theorem less_fin {a b e : Nat} (ha : a < 2 ^ 256) (hb : b < 2 ^ 256) (h : bor a b = e) : Value.tuple #[W (a + 2 ^ 256 - b), .int .u64 ((brw a b 4 : Nat) : Int)] = .tuple #[W (a + 2 ^ 256 - b), .int .u64 ((e : Nat) : Int)] := by
  have : brw a b 4 = e := by rw [← h]; unfold brw bor; rw [Nat.mod_eq_of_lt ha, Nat.mod_eq_of_lt hb]
  rw [this]
theorem more_c {a b c k e : Nat} (hc0 : c ≤ 1) (hcb : c = cry a b k) (h : e = (limN a k + limN b k + c) / 2 ^ 64) : e = cry a b (k + 1) := by
  rw [h, hcb]; exact (cry_step a b k).2
theorem more_f {a b c k : Nat} {f : Nat → Nat} (hc0 : c ≤ 1) (hcb : c = cry a b k) (hf : ∀ j, j < k → f j = limN (a + b) j) :
    ∀ j, j < k + 1 → upn f k (((limN a k + limN b k) % 18446744073709551616 + c) % 18446744073709551616) j = limN (a + b) j := by
  intro j hj
  unfold upn
  by_cases hjk : j = k
  · subst hjk
    rw [if_pos rfl]
    have h := (cry_step a b j).1
    have h1 := limN_lt a j
    have h2 := limN_lt b j
    unfold limN at *
    rw [← h, ← hcb]
    omega
  · rw [if_neg hjk]; exact hf j (by omega)
theorem more_fin {a b e : Nat} (ha : a < 2 ^ 256) (hb : b < 2 ^ 256) (h : (a + b) / 2 ^ 256 = e) : Value.tuple #[W (a + b), .int .u64 ((cry a b 4 : Nat) : Int)] = .tuple #[W (a + b), .int .u64 ((e : Nat) : Int)] := by
  have : cry a b 4 = e := by rw [← h]; unfold cry; rw [Nat.mod_eq_of_lt (a := a) (by simpa using ha), Nat.mod_eq_of_lt (a := b) (by simpa using hb)]
  rw [this]
end Go.Proofs.YtejbajgpiecjcaaGreat

/- Sums, differences modulo a number between 2^255 and 2^256. No program here. -/
namespace Go.Proofs.YtejbajgpiecjcaaGreat
section
variable {N a b x y s c d q : Nat}
theorem bor_iff : bor a b = 1 ↔ a < b := by unfold bor; split <;> simp_all
theorem mod2 (h : x < 2 * N) : x % N = if x < N then x else x - N := by
  split
  · exact Nat.mod_eq_of_lt (by assumption)
  · rw [Nat.mod_eq_sub_mod (by omega), Nat.mod_eq_of_lt (by omega)]
variable (h1 : 2 ^ 255 < N) (h2 : N < 2 ^ 256)
include h1 h2
theorem rred_lo (ha : a < 2 ^ 256) (hq : bor a N = q) (h : q = 1) : a = a % N := by
  rw [mod2 (x := a) (by omega), if_pos (bor_iff.1 (hq.trans h))]
theorem rred_hi (ha : a < 2 ^ 256) (hd : (a + 2 ^ 256 - N) % 2 ^ 256 = d) (hq : bor a N = q) (h : q ≠ 1) : d = a % N := by
  have : ¬ a < N := fun hh => h (hq ▸ bor_iff.2 hh)
  rw [mod2 (x := a) (by omega), if_neg this, ← hd, show a + 2 ^ 256 - N = (a - N) + 2 ^ 256 by omega, Nat.add_mod_right, Nat.mod_eq_of_lt (by omega)]
theorem radd_c (hx : x < N) (hy : y < N) (hs : (x + y) % 2 ^ 256 = s) (hc : (x + y) / 2 ^ 256 = c) (hd : (s + 2 ^ 256 - N) % 2 ^ 256 = d) (h : c = 1) : d = (x + y) % N := by
  rw [mod2 (x := x + y) (by omega), if_neg (by omega), ← hd]
  have e : s = x + y - 2 ^ 256 := by omega
  rw [e, show x + y - 2 ^ 256 + 2 ^ 256 - N = x + y - N by omega, Nat.mod_eq_of_lt (by omega)]
theorem radd_b (hx : x < N) (hy : y < N) (hs : (x + y) % 2 ^ 256 = s) (hc : (x + y) / 2 ^ 256 = c) (hd : (s + 2 ^ 256 - N) % 2 ^ 256 = d) (hq : bor s N = q) (h : ¬ c = 1) (h0 : q = 0) : d = (x + y) % N := by
  have hge : ¬ s < N := fun hh => by have := bor_iff.2 hh; omega
  have e : s = x + y := by omega
  rw [mod2 (x := x + y) (by omega), if_neg (by omega), ← hd, e, show x + y + 2 ^ 256 - N = (x + y - N) + 2 ^ 256 by omega, Nat.add_mod_right, Nat.mod_eq_of_lt (by omega)]
theorem radd_s (hx : x < N) (hy : y < N) (hs : (x + y) % 2 ^ 256 = s) (hc : (x + y) / 2 ^ 256 = c) (hq : bor s N = q) (h : ¬ c = 1) (h0 : ¬ q = 0) : s = (x + y) % N := by
  have e : s = x + y := by omega
  have hlt : s < N := by
    rcases Nat.lt_or_ge s N with hh | hh
    · exact hh
    · unfold bor at hq; rw [if_neg (by omega)] at hq; omega
  rw [mod2 (x := x + y) (by omega), if_pos (by omega), e]
end
end Go.Proofs.YtejbajgpiecjcaaGreat

/- Digits of 16 bits: sums, differences, products digit by digit. No program here. -/
namespace Go.Proofs.YtejbajgpiecjcaaGreat
def p6 (k : Nat) : Nat := 2 ^ (16 * k)
theorem p6_pos (k : Nat) : 0 < p6 k := Nat.two_pow_pos _
theorem p6_succ (k : Nat) : p6 (k + 1) = p6 k * 65536 := by unfold p6; rw [show 16 * (k + 1) = 16 * k + 16 by omega, Nat.pow_add]
theorem p6_add (j k : Nat) : p6 (j + k) = p6 j * p6 k := by unfold p6; rw [← Nat.pow_add]; congr 1; omega
def dg (n k : Nat) : Nat := n / p6 k % 65536
theorem dg_lt (n k : Nat) : dg n k < 65536 := Nat.mod_lt _ (by decide)
theorem div_dig (n k : Nat) : n / p6 k = dg n k + 65536 * (n / p6 (k + 1)) := by
  unfold dg
  rw [p6_succ, ← Nat.div_div_eq_div_mul, Nat.add_comm]
  exact (Nat.div_add_mod _ _).symm
theorem dg_add_mul (n m j k : Nat) (h : j < k) : dg (n + m * p6 k) j = dg n j := by
  unfold dg
  obtain ⟨d, rfl⟩ : ∃ d, k = j + 1 + d := ⟨k - (j + 1), by omega⟩
  have e : m * p6 (j + 1 + d) = p6 j * (65536 * (m * p6 d)) := by
    rw [p6_add, p6_succ]; grind
  rw [e, Nat.add_mul_div_left _ _ (p6_pos j), Nat.add_mul_mod_self_left]
def Ind (V x b i k carry : Nat) : Prop :=
  (V + x * p6 i * (b % p6 k)) / p6 (i + k) = V / p6 (i + k) + carry ∧ carry < 65536
def TD (V x b i k : Nat) : Nat := V + x * p6 i * (b % p6 k)
theorem TD_succ (V x b i k : Nat) : TD V x b i (k + 1) = TD V x b i k + (x * dg b k) * p6 (i + k) := by
  unfold TD dg
  have : b % p6 (k + 1) = b % p6 k + p6 k * (b / p6 k % 65536) := by rw [p6_succ]; exact Nat.mod_mul
  rw [this, p6_add]
  grind
theorem ind_zero (V x b i : Nat) : Ind V x b i 0 0 := by
  unfold Ind
  have : b % p6 0 = 0 := by unfold p6; simp [Nat.mod_one]
  rw [this]; simp
theorem ind_step (V x b i k carry : Nat) (hx : x < 65536) (h : Ind V x b i k carry) :
    Ind V x b i (k + 1) ((x * dg b k + dg V (i + k) + carry) / 65536) ∧ dg (TD V x b i (k + 1)) (i + k) = (x * dg b k + dg V (i + k) + carry) % 65536 := by
  obtain ⟨h1, h2⟩ := h
  have hy := dg_lt b k
  have hv := dg_lt V (i + k)
  have e1 : TD V x b i (k + 1) / p6 (i + k) = (x * dg b k + dg V (i + k) + carry) + 65536 * (V / p6 (i + k + 1)) := by
    rw [TD_succ, Nat.add_mul_div_right _ _ (p6_pos _)]
    unfold TD
    rw [h1, div_dig V (i + k)]
    omega
  refine ⟨⟨?_, ?_⟩, ?_⟩
  · show TD V x b i (k + 1) / p6 (i + (k + 1)) = _
    have : i + (k + 1) = (i + k) + 1 := by omega
    rw [this, p6_succ, ← Nat.div_div_eq_div_mul, e1, Nat.add_mul_div_left _ _ (by decide), ← p6_succ]
    omega
  · have h3 : x * dg b k ≤ 65535 * 65535 := Nat.mul_le_mul (by omega) (by omega)
    rw [Nat.div_lt_iff_lt_mul (by decide)]
    omega
  · show TD V x b i (k + 1) / p6 (i + k) % 65536 = _
    rw [e1, Nat.add_mul_mod_self_left]
def mixd (V x b i k : Nat) : Nat → Nat := fun j => if j < i + k then dg (TD V x b i k) j else dg V j
theorem mixd_step (V x b i k c S : Nat) (hx : x < 65536) (h : Ind V x b i k c) (hS : (x * dg b k + dg V (i + k) + c) % 65536 = S) :
    ∀ j, upn (mixd V x b i k) (i + k) S j = mixd V x b i (k + 1) j := by
  intro j
  have hs := (ind_step V x b i k c hx h).2
  unfold upn mixd
  by_cases hj : j = i + k
  · rw [if_pos hj, if_pos (by omega), hj, hs, hS]
  · rw [if_neg hj]
    by_cases hj2 : j < i + k
    · rw [if_pos hj2, if_pos (by omega), TD_succ, dg_add_mul _ _ _ _ hj2]
    · rw [if_neg hj2, if_neg (by omega)]
def VD (a b i : Nat) : Nat := a % p6 i * b
theorem TD_full (a b i : Nat) (hb : b < p6 16) : TD (VD a b i) (dg a i) b i 16 = VD a b (i + 1) := by
  unfold TD VD
  have h4 : b % p6 16 = b := Nat.mod_eq_of_lt hb
  have : a % p6 (i + 1) = a % p6 i + p6 i * (a / p6 i % 65536) := by rw [p6_succ]; exact Nat.mod_mul
  rw [h4, this]
  unfold dg
  grind
theorem VD_lt (a b i : Nat) (hb : b < p6 16) : VD a b i < p6 (i + 16) := by
  unfold VD
  rw [p6_add]
  exact Nat.mul_lt_mul_of_lt_of_le (Nat.mod_lt _ (p6_pos i)) (Nat.le_of_lt hb) (Nat.zero_lt_of_lt hb)
theorem ind_last (a b i c : Nat) (hb : b < p6 16) (h : Ind (VD a b i) (dg a i) b i 16 c) : ∀ j, upn (mixd (VD a b i) (dg a i) b i 16) (i + 16) c j = dg (VD a b (i + 1)) j := by
  intro j
  obtain ⟨h1, h2⟩ := h
  have e : TD (VD a b i) (dg a i) b i 16 = VD a b (i + 1) := TD_full a b i hb
  have z : VD a b i / p6 (i + 16) = 0 := Nat.div_eq_of_lt (VD_lt a b i hb)
  have e1 : VD a b (i + 1) / p6 (i + 16) = c := by
    rw [← e]; show (VD a b i + dg a i * p6 i * (b % p6 16)) / p6 (i + 16) = c
    rw [h1, z, Nat.zero_add]
  unfold upn mixd
  by_cases hj : j = i + 16
  · rw [if_pos hj, hj]; unfold dg; rw [e1, Nat.mod_eq_of_lt h2]
  · rw [if_neg hj, e]
    by_cases hj2 : j < i + 16
    · rw [if_pos hj2]
    · rw [if_neg hj2]
      obtain ⟨d, rfl⟩ : ∃ d, j = i + 16 + 1 + d := ⟨j - (i + 17), by omega⟩
      have z1 : VD a b i / p6 (i + 16 + 1 + d) = 0 := Nat.div_eq_of_lt (Nat.lt_of_lt_of_le (VD_lt a b i hb) (by unfold p6; exact Nat.pow_le_pow_right (by omega) (by omega)))
      have z2 : VD a b (i + 1) / p6 (i + 16 + 1 + d) = 0 := Nat.div_eq_of_lt (Nat.lt_of_lt_of_le (VD_lt a b (i + 1) hb) (by unfold p6; exact Nat.pow_le_pow_right (by omega) (by omega)))
      unfold dg
      rw [z1, z2]
theorem VD_zero (a b : Nat) : VD a b 0 = 0 := by unfold VD p6; simp [Nat.mod_one]
theorem VD_all (a b : Nat) (ha : a < p6 16) : VD a b 16 = a * b := by unfold VD; rw [Nat.mod_eq_of_lt ha]
theorem dg_zero (j : Nat) : dg 0 j = 0 := by unfold dg; simp
theorem p6_16 : p6 16 = 2 ^ 256 := rfl
def cyd (a b k : Nat) : Nat := (a % p6 k + b % p6 k) / p6 k
def mixs (s a k : Nat) : Nat → Nat := fun j => if j < k then dg s j else dg a j
theorem mixs_step (s a k S : Nat) (h : S = dg s k) : ∀ j, upn (mixs s a k) k S j = mixs s a (k + 1) j := by
  intro j
  unfold upn mixs
  by_cases hj : j = k
  · rw [if_pos hj, if_pos (by omega), hj, h]
  · rw [if_neg hj]
    by_cases hj2 : j < k
    · rw [if_pos hj2, if_pos (by omega)]
    · rw [if_neg hj2, if_neg (by omega)]
theorem mixs_zero (s a : Nat) : ∀ j, mixs s a 0 j = dg a j := fun j => by unfold mixs; rw [if_neg (by omega)]
def bwd (a b k : Nat) : Nat := if a % p6 k < b % p6 k then 1 else 0
theorem bwd_le (a b k : Nat) : bwd a b k ≤ 1 := by unfold bwd; split <;> omega
theorem bwd_zero (a b : Nat) : bwd a b 0 = 0 := by unfold bwd p6; simp [Nat.mod_one]
theorem bwd_step2 (a b k : Nat) : (if dg a k < dg b k + bwd a b k then 1 else 0) = bwd a b (k + 1) := by
  have hp := p6_pos k
  unfold bwd dg
  rw [p6_succ]
  generalize p6 k = A at *
  generalize hB : 65536 = B at *
  have m1 : a % (A * B) = a % A + A * (a / A % B) := Nat.mod_mul
  have m2 : b % (A * B) = b % A + A * (b / A % B) := Nat.mod_mul
  rw [m1, m2]
  have h1 := Nat.mod_lt a hp
  have h2 := Nat.mod_lt b hp
  generalize a % A = ar at *
  generalize b % A = br at *
  generalize a / A % B = x
  generalize b / A % B = y
  rcases Nat.lt_trichotomy x y with h | h | h
  · have h3 : A * (x + 1) ≤ A * y := Nat.mul_le_mul_left A h
    rw [Nat.mul_add] at h3
    rw [if_pos (by omega), if_pos (by omega)]
  · subst h
    by_cases hb : ar < br
    · rw [if_pos hb, if_pos (by omega), if_pos (by omega)]
    · rw [if_neg hb, if_neg (by omega), if_neg (by omega)]
  · have h3 : A * (y + 1) ≤ A * x := Nat.mul_le_mul_left A h
    rw [Nat.mul_add] at h3
    rw [if_neg (by split <;> omega), if_neg (by omega)]
theorem bwd_step1 (a b k : Nat) (hb : b < 2 ^ 256) (hk : k < 16) : (dg a k + 65536 - dg b k - bwd a b k) % 65536 = dg (a + 2 ^ 256 - b) k := by
  have hp := p6_pos k
  have hpB : 0 < 65536 := by decide
  have hQ : (2 : Nat) ^ 256 = p6 k * (65536 * p6 (15 - k)) := by
    rw [← p6_16, show 16 = k + (1 + (15 - k)) by omega, p6_add, p6_add]; rfl
  rw [hQ] at hb ⊢
  unfold bwd dg
  generalize p6 (15 - k) = Q at *
  generalize p6 k = A at *
  generalize hB : 65536 = B at *
  have hb2 : b / A < B * Q := Nat.div_lt_of_lt_mul hb
  have hb3 : b / A / B < Q := Nat.div_lt_of_lt_mul hb2
  have d1 := Nat.div_add_mod a A
  have d2 := Nat.div_add_mod b A
  have l1 := Nat.mod_lt a hp
  have l2 := Nat.mod_lt b hp
  have d3 := Nat.div_add_mod (a / A) B
  have d4 := Nat.div_add_mod (b / A) B
  have l3 := Nat.mod_lt (a / A) hpB
  have l4 := Nat.mod_lt (b / A) hpB
  generalize a % A = ar at *
  generalize b % A = br at *
  generalize a / A = a' at *
  generalize b / A = b' at *
  generalize a' % B = x at *
  generalize b' % B = y at *
  generalize a' / B = a2 at *
  generalize b' / B = b2 at *
  have key : ∀ c, c ≤ 1 → (a' + B * Q - b' - c) % B = (x + B - y - c) % B := by
    intro c hc
    obtain ⟨q, rfl⟩ : ∃ q, Q = b2 + 1 + q := ⟨Q - b2 - 1, by omega⟩
    have e1 : a' + B * (b2 + 1 + q) - b' - c = B * (a2 + q) + (x + B - y - c) := by
      rw [← d3, ← d4]
      simp only [Nat.mul_add, Nat.mul_one]
      omega
    rw [e1, Nat.mul_add_mod]
  have e0 : A * (B * Q) ≥ A * b' := Nat.mul_le_mul_left A (by omega)
  by_cases h : ar < br
  · rw [if_pos h, ← key 1 (by omega)]
    have e2 : a + A * (B * Q) - b = A * (a' + B * Q - b' - 1) + (A + ar - br) := by
      obtain ⟨t, ht⟩ : ∃ t, B * Q = b' + 1 + t := ⟨B * Q - b' - 1, by omega⟩
      rw [ht] at e0 ⊢
      rw [← d1, ← d2]
      have : a' + (b' + 1 + t) - b' - 1 = a' + t := by omega
      rw [this]
      simp only [Nat.mul_add, Nat.mul_one]
      omega
    rw [e2, Nat.mul_add_div hp, Nat.div_eq_of_lt (by omega : A + ar - br < A)]
    rfl
  · rw [if_neg h, ← key 0 (by omega)]
    have e2 : a + A * (B * Q) - b = A * (a' + B * Q - b') + (ar - br) := by
      obtain ⟨t, ht⟩ : ∃ t, B * Q = b' + 1 + t := ⟨B * Q - b' - 1, by omega⟩
      rw [ht] at e0 ⊢
      rw [← d1, ← d2]
      have : a' + (b' + 1 + t) - b' = a' + 1 + t := by omega
      rw [this]
      simp only [Nat.mul_add, Nat.mul_one]
      omega
    rw [e2, Nat.mul_add_div hp, Nat.div_eq_of_lt (by omega : ar - br < A)]
    rfl
def wf (M k j : Nat) : Nat := if 4 * j + 4 ≤ k then 0 else M / p6 (max k (4 * j)) % p6 (4 * j + 4 - max k (4 * j))
theorem wf_top (M j : Nat) (h : j < 4) : wf M 16 j = 0 := by unfold wf; rw [if_pos (by omega)]
theorem wf_bot (M j : Nat) (h : j < 4) : wf M 0 j = limN M j := by
  unfold wf limN
  rw [if_neg (by omega), show max 0 (4 * j) = 4 * j by omega, show 4 * j + 4 - 4 * j = 4 by omega]
  unfold p6
  rw [show 16 * (4 * j) = 64 * j by omega]
theorem wf_step (M i j : Nat) : (upn (wf M (i + 1)) (i / 4) (wf M (i + 1) (i / 4) * 65536 + dg M i)) j = wf M i j := by
  unfold upn
  by_cases hj : j = i / 4
  · rw [if_pos hj, hj]
    generalize hm : i / 4 = m
    have h1 : 4 * m ≤ i := by omega
    have h2 : i < 4 * m + 4 := by omega
    unfold wf
    rw [if_neg (by omega : ¬ 4 * m + 4 ≤ i), show max i (4 * m) = i by omega]
    have e : p6 (4 * m + 4 - i) = 65536 * p6 (4 * m + 4 - (i + 1)) := by
      rw [show 4 * m + 4 - i = (4 * m + 4 - (i + 1)) + 1 by omega, p6_succ, Nat.mul_comm]
    have e2 : M / p6 i % p6 (4 * m + 4 - i) = M / p6 i % 65536 + 65536 * (M / p6 (i + 1) % p6 (4 * m + 4 - (i + 1))) := by
      rw [e, Nat.mod_mul, Nat.div_div_eq_div_mul, ← p6_succ]
    rw [e2]
    unfold dg
    by_cases hle : 4 * m + 4 ≤ i + 1
    · rw [if_pos hle, show 4 * m + 4 - (i + 1) = 0 by omega]
      have : p6 0 = 1 := rfl
      rw [this, Nat.mod_one]; omega
    · rw [if_neg hle, show max (i + 1) (4 * m) = i + 1 by omega]; omega
  · rw [if_neg hj]
    unfold wf
    by_cases h : 4 * j + 4 ≤ i
    · rw [if_pos h, if_pos (by omega)]
    · rw [if_neg h, if_neg (by omega), show max i (4 * j) = max (i + 1) (4 * j) by omega]
theorem wf_room (M i : Nat) : wf M (i + 1) (i / 4) < 2 ^ 48 := by
  unfold wf
  split
  · exact Nat.two_pow_pos 48
  · refine Nat.lt_of_lt_of_le (Nat.mod_lt _ (p6_pos _)) ?_
    unfold p6
    exact Nat.pow_le_pow_right (by omega) (by omega)
theorem dg_high (M n j : Nat) (h : M < p6 n) (hj : n ≤ j) : dg M j = 0 := by
  unfold dg
  rw [Nat.div_eq_of_lt (Nat.lt_of_lt_of_le h (by unfold p6; exact Nat.pow_le_pow_right (by omega) (by omega)))]
theorem dg_from (M from_ i : Nat) : dg (M / p6 from_) i = dg M (from_ + i) := by
  unfold dg; rw [Nat.div_div_eq_div_mul, ← p6_add]
theorem dg_lim (a i k : Nat) (hk : k < 4) : limN a i / 65536 ^ k % 65536 = dg a (4 * i + k) := by
  unfold limN dg p6
  rw [show 16 * (4 * i + k) = 64 * i + 16 * k by omega, Nat.pow_add, ← Nat.div_div_eq_div_mul]
  generalize a / 2 ^ (64 * i) = x
  match k, hk with
  | 0, _ => simp <;> omega
  | 1, _ => simp <;> omega
  | 2, _ => simp <;> omega
  | 3, _ => simp <;> omega
end Go.Proofs.YtejbajgpiecjcaaGreat

/- Plain laws for the walks of the reference's numbers of 256 bits. No program here. -/
namespace Go.Proofs.YtejbajgpiecjcaaGreat
theorem cap0 {κ : IntKind} {f : Nat → Nat} : (tab κ 0 f ++ []).length ≤ maxLen := Nat.zero_le _
theorem dig_lt {a i k x : Nat} (h : x = limN a i / 65536 ^ k) : x < 18446744073709551616 := by
  rw [h]; exact Nat.lt_of_le_of_lt (Nat.div_le_self _ _) (limN_lt a i)
theorem dig_app {a i k x : Nat} (hk : k < 4) (h : x = limN a i / 65536 ^ k) : dg a (4 * i + k) = x % 65536 := by rw [h]; exact (dg_lim a i k hk).symm
theorem dig_next {a i k x : Nat} (h : x = limN a i / 65536 ^ k) : x / 65536 = limN a i / 65536 ^ (k + 1) := by rw [h, Nat.div_div_eq_div_mul, Nat.pow_succ]
theorem dg_mod {n j : Nat} (h : j < 16) : dg (n % 2 ^ 256) j = dg n j := by
  unfold dg
  rw [← p6_16, show 16 = j + 1 + (15 - j) by omega, p6_add, p6_succ, Nat.mul_assoc, Nat.mod_mul_right_div_self, Nat.mod_mul_right_mod]
theorem whole_room {M k : Nat} {f : Nat → Nat} (h1 : 1 ≤ k) (h2 : k ≤ 16) (hf : ∀ j, j < 4 → f j = wf M k j) : f ((k - 1) / 4) < 281474976710656 := by
  rw [hf _ (by omega)]
  obtain ⟨i, rfl⟩ : ∃ i, k = i + 1 := ⟨k - 1, by omega⟩
  exact wf_room M i
theorem whole_step {M k X : Nat} {f : Nat → Nat} (h1 : 1 ≤ k) (h2 : k ≤ 16) (hf : ∀ j, j < 4 → f j = wf M k j) (hX : X = dg M (k - 1)) :
    ∀ j, j < 4 → upn f ((k - 1) / 4) (f ((k - 1) / 4) * 65536 + X) j = wf M (k - 1) j := by
  intro j hj
  obtain ⟨i, rfl⟩ : ∃ i, k = i + 1 := ⟨k - 1, by omega⟩
  have := wf_step M i j
  rw [Nat.add_sub_cancel] at hX ⊢
  rw [← this, hX, hf (i / 4) (by omega)]
  unfold upn
  split
  · rfl
  · exact hf j hj
theorem whole_x1 {M fr k : Nat} : dg M (fr + (k - 1)) = dg (M / p6 fr) (k - 1) := (dg_from M fr (k - 1)).symm
theorem whole_x0 {M n fr k : Nat} (hM : M < p6 n) (h : ¬ fr + (k - 1) < n) : 0 = dg (M / p6 fr) (k - 1) := by
  rw [dg_from, dg_high M n _ hM (by omega)]
theorem whole0 {s : Nat} (h : s < 2 ^ 256) : s / p6 0 % 2 ^ 256 = s := by
  have : p6 0 = 1 := rfl
  rw [this, Nat.div_one, Nat.mod_eq_of_lt h]
theorem mixs_at {s a k : Nat} : mixs s a k k = dg a k := by unfold mixs; rw [if_neg (by omega)]
theorem sub_c {a b k c : Nat} {f : Nat → Nat} (hc : c = bwd a b k) (hf : f k = dg a k) : 1 - (f k + 65536 - dg b k - c) / 65536 = bwd a b (k + 1) := by
  rw [← bwd_step2, hf, hc]
  have h1 := dg_lt a k
  have h2 := dg_lt b k
  have h3 := bwd_le a b k
  split <;> omega
theorem sub_f {a b k c : Nat} {f : Nat → Nat} (hb : b < 2 ^ 256) (hk : k < 16) (hc : c = bwd a b k) (hf : ∀ j, j < 16 → f j = mixs (a + 2 ^ 256 - b) a k j) :
    ∀ j, j < 16 → upn f k ((f k + 65536 - dg b k - c) % 65536) j = mixs (a + 2 ^ 256 - b) a (k + 1) j := by
  intro j hj
  have h1 := hf k hk
  rw [mixs_at] at h1
  rw [← mixs_step (a + 2 ^ 256 - b) a k ((f k + 65536 - dg b k - c) % 65536) (by rw [← bwd_step1 a b k hb hk, h1, hc])]
  unfold upn
  split
  · rfl
  · exact hf j hj
theorem sub_fin {a b s : Nat} {f : Nat → Nat} (hs : (a + 2 ^ 256 - b) % 2 ^ 256 = s) (hf : ∀ j, j < 16 → f j = mixs (a + 2 ^ 256 - b) a 16 j) : ∀ j, j < 16 → f j = dg s j := by
  intro j hj
  rw [hf j hj, ← hs, dg_mod hj]
  unfold mixs
  rw [if_pos hj]
theorem sub_q {a b q : Nat} (ha : a < 2 ^ 256) (hb : b < 2 ^ 256) (hq : bor a b = q) : bwd a b 16 = q := by
  unfold bwd; rw [p6_16, Nat.mod_eq_of_lt ha, Nat.mod_eq_of_lt hb, ← hq]; rfl
theorem mul_lt16 {x y : Nat} (hx : x < 65536) (hy : y < 65536) : x * y ≤ 4294836225 := by
  have := Nat.mul_le_mul (show x ≤ 65535 by omega) (show y ≤ 65535 by omega)
  omega
theorem mixd_at {V x b i k : Nat} : mixd V x b i k (i + k) = dg V (i + k) := by unfold mixd; rw [if_neg (by omega)]
theorem prod_c {V x b i k c : Nat} {f : Nat → Nat} (hx : x < 65536) (hf : f (i + k) = dg V (i + k)) (h : Ind V x b i k c) : Ind V x b i (k + 1) ((c + f (i + k) + x * dg b k) / 65536) := by
  rw [hf, show c + dg V (i + k) + x * dg b k = x * dg b k + dg V (i + k) + c by omega]
  exact (ind_step V x b i k c hx h).1
theorem prod_f {V x b i k c : Nat} {f : Nat → Nat} (hx : x < 65536) (hi : i + k < 32) (h : Ind V x b i k c) (hf : ∀ j, j < 32 → f j = mixd V x b i k j) :
    ∀ j, j < 32 → upn f (i + k) ((c + f (i + k) + x * dg b k) % 65536) j = mixd V x b i (k + 1) j := by
  intro j hj
  have h1 := hf _ hi
  rw [mixd_at] at h1
  rw [← mixd_step V x b i k c ((c + f (i + k) + x * dg b k) % 65536) hx h (by rw [h1]; exact congrArg (· % 65536) (by omega))]
  unfold upn
  split
  · rfl
  · exact hf j hj
theorem prod_f0 {a b i : Nat} {f : Nat → Nat} (hf : ∀ j, j < 32 → f j = dg (VD a b i) j) : ∀ j, j < 32 → f j = mixd (VD a b i) (dg a i) b i 0 j := by
  intro j hj
  rw [hf j hj]
  unfold mixd TD
  have : b % p6 0 = 0 := by unfold p6; simp [Nat.mod_one]
  rw [this]; simp
theorem prod_last {a b i c : Nat} {f : Nat → Nat} (hb : b < 2 ^ 256) (h : Ind (VD a b i) (dg a i) b i 16 c) (hf : ∀ j, j < 32 → f j = mixd (VD a b i) (dg a i) b i 16 j) :
    ∀ j, j < 32 → upn f (i + 16) c j = dg (VD a b (i + 1)) j := by
  intro j hj
  rw [← ind_last a b i c hb h]
  unfold upn
  split
  · rfl
  · exact hf j hj
theorem prod_0 {a b : Nat} : ∀ j, j < 32 → (fun _ => 0) j = dg (VD a b 0) j := fun j _ => by rw [VD_zero, dg_zero]
theorem prod_fin {a b : Nat} {f : Nat → Nat} (ha : a < 2 ^ 256) (hf : ∀ j, j < 32 → f j = dg (VD a b 16) j) : ∀ j, j < 32 → f j = dg (a * b) j := fun j hj => by rw [hf j hj, VD_all a b ha]
theorem prod_lt {a b : Nat} (ha : a < 2 ^ 256) (hb : b < 2 ^ 256) : a * b < p6 32 := by
  rw [show (32 : Nat) = 16 + 16 from rfl, p6_add]
  exact Nat.mul_lt_mul'' ha hb
theorem p6_0 : p6 0 = 1 := rfl
theorem bit_lim (a i : Nat) : limN a (i / 64) / 2 ^ (i % 64) % 2 = a / 2 ^ i % 2 := by
  unfold limN
  have e : a / 2 ^ i = a / 2 ^ (64 * (i / 64)) / 2 ^ (i % 64) := by rw [Nat.div_div_eq_div_mul, ← Nat.pow_add, Nat.div_add_mod]
  rw [e]
  generalize a / 2 ^ (64 * (i / 64)) = x
  have hk : i % 64 < 64 := Nat.mod_lt _ (by decide)
  generalize i % 64 = k at hk
  rw [show (64 : Nat) = k + 1 + (63 - k) by omega, Nat.pow_add, Nat.pow_succ, Nat.mul_assoc, Nat.mod_mul_right_div_self, Nat.mod_mul_right_mod]
theorem pow_lt64 {k : Nat} (h : k < 64) : 1 * 2 ^ k < 18446744073709551616 := by
  rw [Nat.one_mul]; exact Nat.pow_lt_pow_right (by decide) h
theorem pow_mod64 {k : Nat} (h : k < 64) : 1 * 2 ^ k % 18446744073709551616 = 2 ^ k := by
  rw [Nat.mod_eq_of_lt (pow_lt64 h), Nat.one_mul]
theorem tw_limbs {a b : Nat} (hb : b ≤ 1) :
    [Value.int .u64 ((limN a 0 * 2 % 18446744073709551616 + b : Nat) : Int), .int .u64 ((limN a 1 * 2 % 18446744073709551616 + limN a 0 / 9223372036854775808 : Nat) : Int), .int .u64 ((limN a 2 * 2 % 18446744073709551616 + limN a 1 / 9223372036854775808 : Nat) : Int), .int .u64 ((limN a 3 * 2 % 18446744073709551616 + limN a 2 / 9223372036854775808 : Nat) : Int)] = Wl (2 * a + b) := by
  unfold Wl lim
  rw [show limN a 0 * 2 % 18446744073709551616 + b = (2 * a + b) / 2 ^ (64 * 0) % 2 ^ 64 by unfold limN; omega,
    show limN a 1 * 2 % 18446744073709551616 + limN a 0 / 9223372036854775808 = (2 * a + b) / 2 ^ (64 * 1) % 2 ^ 64 by unfold limN; omega,
    show limN a 2 * 2 % 18446744073709551616 + limN a 1 / 9223372036854775808 = (2 * a + b) / 2 ^ (64 * 2) % 2 ^ 64 by unfold limN; omega,
    show limN a 3 * 2 % 18446744073709551616 + limN a 2 / 9223372036854775808 = (2 * a + b) / 2 ^ (64 * 3) % 2 ^ 64 by unfold limN; omega]
theorem tw_c {a b c : Nat} (ha : a < 2 ^ 256) (hb : b ≤ 1) (hc : (2 * a + b) / 2 ^ 256 = c) : limN a 3 / 9223372036854775808 = c := by unfold limN; omega
theorem rem_bit {N m r k b : Nat} (h1 : 1 ≤ k) (hr : N / 2 ^ k % m = r) (hb : N / 2 ^ (k - 1) % 2 = b) : N / 2 ^ (k - 1) % m = (2 * r + b) % m := by
  obtain ⟨i, rfl⟩ : ∃ i, k = i + 1 := ⟨k - 1, by omega⟩
  rw [Nat.add_sub_cancel] at *
  have e : N / 2 ^ i = 2 * (N / 2 ^ (i + 1)) + b := by
    rw [← hb, Nat.pow_succ, ← Nat.div_div_eq_div_mul]; omega
  rw [e, ← hr, Nat.add_mod, Nat.mul_mod, Nat.add_mod (2 * _), Nat.mul_mod 2 (_ % m), Nat.mod_mod]
theorem rem_no {m r b t c : Nat} (hr : r < m) (hm : m < 2 ^ 256) (hb : b ≤ 1) (ht : (2 * r + b) % 2 ^ 256 = t) (hc : (2 * r + b) / 2 ^ 256 = c) (h1 : ¬ c = 1) (h2 : ¬ m ≤ t) : (2 * r + b) % m = t := by
  have : 2 * r + b = t := by omega
  rw [this, Nat.mod_eq_of_lt (by omega)]
theorem rem_yes {m r b t c d : Nat} (hr : r < m) (hm : m < 2 ^ 256) (hb : b ≤ 1) (ht : (2 * r + b) % 2 ^ 256 = t) (hc : (2 * r + b) / 2 ^ 256 = c) (hd : (t + 2 ^ 256 - m) % 2 ^ 256 = d) (h : c = 1 ∨ m ≤ t) : (2 * r + b) % m = d := by
  have h1 : m ≤ 2 * r + b := by omega
  rw [Nat.mod_eq_sub_mod h1, Nat.mod_eq_of_lt (by omega)]
  omega
theorem half_hi {H L i : Nat} (hL : L < 2 ^ 256) (h : 256 ≤ i) (h2 : i < 512) : (H * 2 ^ 256 + L) / 2 ^ i % 2 = H / 2 ^ (i % 256) % 2 := by
  have e : 2 ^ i = 2 ^ 256 * 2 ^ (i % 256) := by rw [← Nat.pow_add]; congr 1; omega
  rw [e, ← Nat.div_div_eq_div_mul, Nat.add_comm, Nat.add_mul_div_right _ _ (Nat.two_pow_pos 256), Nat.div_eq_of_lt hL, Nat.zero_add]
theorem half_lo {H L i : Nat} (h : i < 256) : (H * 2 ^ 256 + L) / 2 ^ i % 2 = L / 2 ^ (i % 256) % 2 := by
  rw [Nat.mod_eq_of_lt h]
  have e : (2 : Nat) ^ 256 = 2 ^ (i + 1) * 2 ^ (255 - i) := by rw [← Nat.pow_add]; congr 1; omega
  rw [e, show H * (2 ^ (i + 1) * 2 ^ (255 - i)) = 2 ^ i * (2 * (H * 2 ^ (255 - i))) by rw [Nat.pow_succ]; grind, Nat.add_comm, Nat.add_mul_div_left _ _ (Nat.two_pow_pos i), Nat.add_mul_mod_self_left]
theorem bit_le {n j b : Nat} (h : n / 2 ^ j % 2 = b) : b ≤ 1 := by omega
theorem rem_start {N m : Nat} (h : N < 2 ^ 512) : N / 2 ^ 512 % m = 0 := by rw [Nat.div_eq_of_lt h, Nat.zero_mod]
theorem rem_N {H L : Nat} (hH : H < 2 ^ 256) (hL : L < 2 ^ 256) : H * 2 ^ 256 + L < 2 ^ 512 := by omega
theorem cmp_next {a b k : Nat} (h1 : 1 ≤ k) (hq : a / 2 ^ (64 * k) = b / 2 ^ (64 * k)) (h : ¬ limN a (k - 1) < limN b (k - 1)) (h' : ¬ limN b (k - 1) < limN a (k - 1)) : a / 2 ^ (64 * (k - 1)) = b / 2 ^ (64 * (k - 1)) := by
  obtain ⟨i, rfl⟩ : ∃ i, k = i + 1 := ⟨k - 1, by omega⟩
  exact eq_of_top hq (Nat.le_antisymm (Nat.not_lt.1 h') (Nat.not_lt.1 h))
theorem cmp_hi {a b k : Nat} (h1 : 1 ≤ k) (hq : a / 2 ^ (64 * k) = b / 2 ^ (64 * k)) (h : limN a (k - 1) < limN b (k - 1)) : a < b := by
  obtain ⟨i, rfl⟩ : ∃ i, k = i + 1 := ⟨k - 1, by omega⟩
  exact lt_of_top hq h
section
variable {P : Program} {T : TypeId}
theorem cmpZ_ge (a b : Nat) : decide (cmpZ a b ≥ 0) = decide (b ≤ a) := by
  rw [Bool.eq_iff_iff]; simp only [decide_eq_true_eq]; unfold cmpZ; repeat' split
  all_goals omega
theorem cmpZ_lt (a b : Nat) : decide (cmpZ a b < 0) = decide (a < b) := by
  rw [Bool.eq_iff_iff]; simp only [decide_eq_true_eq]; unfold cmpZ; repeat' split
  all_goals omega
theorem bin_cmp_geq (a b : Nat) (w : World) : (binOp .geq T (.int .i64 (cmpZ a b)) (.int .i64 0)).run P w = .ok (.bool (decide (b ≤ a))) w := by rw [← cmpZ_ge]; simp [binOp, Op.intCmp]
theorem bin_cmp_lss (a b : Nat) (w : World) : (binOp .lss T (.int .i64 (cmpZ a b)) (.int .i64 0)).run P w = .ok (.bool (decide (a < b))) w := by rw [← cmpZ_lt]; simp [binOp, Op.intCmp]
end
end Go.Proofs.YtejbajgpiecjcaaGreat

/- Inverses by halving and taking away; what bytes tell. No program here. -/
namespace Go.Proofs.YtejbajgpiecjcaaGreat
def hfm (a m : Nat) : Nat := (if a % 2 = 1 then a + m else a) / 2
theorem or_lt64 {x y : Nat} (hx : x < 18446744073709551616) (hy : y < 18446744073709551616) : x ||| y < 18446744073709551616 := Nat.or_lt_two_pow (n := 64) hx hy
theorem half_or {x y : Nat} (hx : x < 9223372036854775808) : x ||| y * 2 ^ 63 % 18446744073709551616 = x + 9223372036854775808 * (y % 2) := by
  have e : y * 2 ^ 63 % 18446744073709551616 = 2 ^ 63 * (y % 2) := by omega
  rw [e, Nat.or_comm, ← Nat.two_pow_add_eq_or_of_lt (i := 63) (by omega)]
  omega
theorem half_limbs {s c : Nat} (hs : s < 2 ^ 256) (hc : c ≤ 1) :
    [Value.int .u64 ((limN s 0 / 2 ^ 1 ||| limN s 1 * 2 ^ 63 % 18446744073709551616 : Nat) : Int), .int .u64 ((limN s 1 / 2 ^ 1 ||| limN s 2 * 2 ^ 63 % 18446744073709551616 : Nat) : Int), .int .u64 ((limN s 2 / 2 ^ 1 ||| limN s 3 * 2 ^ 63 % 18446744073709551616 : Nat) : Int), .int .u64 ((limN s 3 / 2 ^ 1 ||| c * 2 ^ 63 % 18446744073709551616 : Nat) : Int)] = Wl ((s + 2 ^ 256 * c) / 2) := by
  have h0 := limN_lt s 0
  have h1 := limN_lt s 1
  have h2 := limN_lt s 2
  have h3 := limN_lt s 3
  rw [half_or (by omega), half_or (by omega), half_or (by omega), half_or (by omega)]
  unfold Wl lim
  rw [show limN s 0 / 2 ^ 1 + 9223372036854775808 * (limN s 1 % 2) = (s + 2 ^ 256 * c) / 2 / 2 ^ (64 * 0) % 2 ^ 64 by unfold limN; omega,
    show limN s 1 / 2 ^ 1 + 9223372036854775808 * (limN s 2 % 2) = (s + 2 ^ 256 * c) / 2 / 2 ^ (64 * 1) % 2 ^ 64 by unfold limN; omega,
    show limN s 2 / 2 ^ 1 + 9223372036854775808 * (limN s 3 % 2) = (s + 2 ^ 256 * c) / 2 / 2 ^ (64 * 2) % 2 ^ 64 by unfold limN; omega,
    show limN s 3 / 2 ^ 1 + 9223372036854775808 * (c % 2) = (s + 2 ^ 256 * c) / 2 / 2 ^ (64 * 3) % 2 ^ 64 by unfold limN; omega]
theorem lim_odd (a : Nat) : limN a 0 % 2 = a % 2 := by unfold limN; omega
theorem hf_yes {a m s c h : Nat} (hh : hfm a m = h) (hs : (a + m) % 2 ^ 256 = s) (hc : (a + m) / 2 ^ 256 = c) (ho : limN a 0 % 2 = 1) : (s + 2 ^ 256 * c) / 2 = h := by
  rw [lim_odd] at ho
  rw [← hh, hfm, if_pos ho, ← hs, ← hc, Nat.mod_add_div]
theorem hf_no {a m h : Nat} (hh : hfm a m = h) (ho : ¬ limN a 0 % 2 = 1) : (a + 2 ^ 256 * 0) / 2 = h := by
  rw [lim_odd] at ho
  rw [← hh, hfm, if_neg ho]; rfl
theorem hfm_lt {a m : Nat} (h : a < m) : hfm a m < m := by unfold hfm; split <;> omega
theorem hfm_even {u m : Nat} (h : u % 2 = 0) : hfm u m = u / 2 := by unfold hfm; rw [if_neg (by omega)]
structure Bg (a m k u v x y : Nat) : Prop where
  hx : x < m
  hy : y < m
  hu : u ≤ m
  hv : v ≤ m
  vo : v % 2 = 1
  ux : x * a % m = u % m
  vy : y * a % m = v % m
  g : Nat.gcd u v = 1
  bits : ∃ i j, u < 2 ^ i ∧ v < 2 ^ j ∧ 2 * (i + j) + u % 2 + k ≤ 1025
theorem Bg.le {a m k u v x y : Nat} (h : Bg a m k u v x y) : k ≤ 1025 := by
  obtain ⟨i, j, _, _, h⟩ := h.bits; omega
theorem bg_start {a m : Nat} (h1 : 1 < m) (hm : m < 2 ^ 256) (ho : m % 2 = 1) (ha : a < m) (hg : Nat.gcd a m = 1) : Bg a m 0 a m 1 0 :=
  ⟨h1, by omega, Nat.le_of_lt ha, Nat.le_refl _, ho, by rw [Nat.one_mul], by rw [Nat.zero_mul, Nat.mod_self, Nat.zero_mod], hg, 256, 256, by omega, hm, by omega⟩
theorem cancel2 {m x y : Nat} (ho : m % 2 = 1) (h : 2 * x % m = 2 * y % m) : x % m = y % m := by
  have e : ∀ z, ((m + 1) / 2) * (2 * z) % m = z % m := by
    intro z
    have e1 : (m + 1) / 2 * (2 * z) = z + m * z := by
      rw [← Nat.mul_assoc, show (m + 1) / 2 * 2 = m + 1 by omega, Nat.add_mul, Nat.one_mul, Nat.add_comm]
    rw [e1, Nat.add_mul_mod_self_left]
  rw [← e x, ← e y, Nat.mul_mod, h, ← Nat.mul_mod]
theorem hfm_mod {x m a u : Nat} (ho : m % 2 = 1) (he : u % 2 = 0) (h : x * a % m = u % m) : hfm x m * a % m = u / 2 % m := by
  refine cancel2 ho ?_
  rw [show 2 * (u / 2) = u by omega, ← h, ← Nat.mul_assoc]
  unfold hfm
  split
  · rw [show 2 * ((x + m) / 2) = x + m by omega, Nat.add_mul, Nat.add_mul_mod_self_left]
  · rw [show 2 * (x / 2) = x by omega]
theorem bg_even {a m k u v x y : Nat} (ho : m % 2 = 1) (h : Bg a m k u v x y) (h0 : u ≠ 0) (he : u % 2 = 0) : Bg a m (k + 1) (hfm u m) v (hfm x m) y := by
  rw [hfm_even he]
  obtain ⟨hx, hy, hu, hv, vo, ux, vy, hg, i, j, bi, bj, hb⟩ := h
  refine ⟨hfm_lt hx, hy, by omega, hv, vo, hfm_mod ho he ux, vy, ?_, i - 1, j, ?_, bj, ?_⟩
  · have hd : Nat.gcd (u / 2) v ∣ Nat.gcd u v := Nat.dvd_gcd (Nat.dvd_trans (Nat.gcd_dvd_left _ _) ⟨2, by omega⟩) (Nat.gcd_dvd_right _ _)
    rw [hg] at hd
    exact Nat.dvd_one.1 hd
  · cases i with
    | zero => omega
    | succ i => rw [Nat.pow_succ] at bi; rw [Nat.add_sub_cancel]; omega
  · cases i with
    | zero => omega
    | succ i => omega
theorem sub_modm {x y m a u v : Nat} (hy : y < m) (h1 : x * a % m = u % m) (h2 : y * a % m = v % m) (hle : v ≤ u) : (x + m - y) % m * a % m = (u - v) % m := by
  rw [Nat.mod_mul_mod]
  have e : ((x + m - y) * a + y * a) % m = ((u - v) + v) % m := by
    rw [← Nat.add_mul, Nat.sub_add_cancel hle, show x + m - y + y = x + m by omega, Nat.add_mul, Nat.add_mul_mod_self_left, h1]
  have c : ∀ p q : Nat, (p + y * a) % m = (q + v) % m → p % m = q % m := by
    intro p q hpq
    have hlt := Nat.mod_lt v (show 0 < m by omega)
    have e1 : (p + y * a) % m = (p + v % m) % m := by rw [Nat.add_mod, h2, ← Nat.add_mod, ← Nat.add_mod_mod]
    have e2 : (q + v) % m = (q + v % m) % m := by rw [Nat.add_mod_mod]
    rw [e1, e2] at hpq
    have e3 : ∀ r : Nat, (r + v % m + (m - v % m)) % m = r % m := by
      intro r
      rw [show r + v % m + (m - v % m) = r + m by omega, Nat.add_mod_right]
    rw [← e3 p, ← e3 q, Nat.add_mod, hpq, ← Nat.add_mod]
  exact c _ _ e
theorem bg_ge {a m k u v x y : Nat} (h : Bg a m k u v x y) (hodd : u % 2 = 1) (hge : ¬ u < v) : Bg a m (k + 1) (u - v) v ((x + m - y) % m) y := by
  obtain ⟨hx, hy, hu, hv, vo, ux, vy, hg, i, j, bi, bj, hb⟩ := h
  refine ⟨Nat.mod_lt _ (by omega), hy, by omega, hv, vo, sub_modm hy ux vy (by omega), vy, ?_, i, j, by omega, bj, by omega⟩
  have e : u = u - v + v := by omega
  rw [e, Nat.gcd_add_self_left] at hg
  exact hg
theorem bg_lt {a m k u v x y : Nat} (h : Bg a m k u v x y) (hodd : u % 2 = 1) (hlt : u < v) : Bg a m (k + 1) (v - u) u ((y + m - x) % m) x := by
  obtain ⟨hx, hy, hu, hv, vo, ux, vy, hg, i, j, bi, bj, hb⟩ := h
  refine ⟨Nat.mod_lt _ (by omega), hx, by omega, hu, hodd, sub_modm hx vy ux (by omega), ux, ?_, j, i, by omega, bi, by omega⟩
  have e : v = v - u + u := by omega
  rw [e, Nat.gcd_add_self_right, Nat.gcd_comm] at hg
  exact hg
theorem bg_end {a m k v x y : Nat} (h1 : 1 < m) (h : Bg a m k 0 v x y) : y < m ∧ y * a % m = 1 := by
  have hg := h.g
  rw [Nat.gcd_zero_left] at hg
  refine ⟨h.hy, ?_⟩
  rw [h.vy, hg, Nat.mod_eq_of_lt h1]
theorem less_mod {x y m z b : Nat} (hx : x < m) (hy : y < m) (hm : m < 2 ^ 256) (hz : (x + 2 ^ 256 - y) % 2 ^ 256 = z) (hb : bor x y = b) (h : ¬ b = 1) : z = (x + m - y) % m := by
  have : ¬ x < y := fun hh => h (by rw [← hb]; unfold bor; rw [if_pos hh])
  rw [← hz, show x + 2 ^ 256 - y = (x - y) + 2 ^ 256 by omega, show x + m - y = (x - y) + m by omega, Nat.add_mod_right, Nat.add_mod_right, Nat.mod_eq_of_lt (by omega), Nat.mod_eq_of_lt (by omega)]
theorem less_mod2 {x y m z z2 b : Nat} (hx : x < m) (hy : y < m) (hm : m < 2 ^ 256) (hz : (x + 2 ^ 256 - y) % 2 ^ 256 = z) (hb : bor x y = b) (h : b = 1) (hz2 : (z + m) % 2 ^ 256 = z2) : z2 = (x + m - y) % m := by
  have : x < y := by
    rcases Nat.lt_or_ge x y with hh | hh
    · exact hh
    · unfold bor at hb; rw [if_neg (by omega)] at hb; omega
  rw [← hz2, ← hz, Nat.mod_add_mod, show x + 2 ^ 256 - y + m = (x + m - y) + 2 ^ 256 by omega, Nat.add_mod_right, Nat.mod_eq_of_lt (by omega), Nat.mod_eq_of_lt (by omega)]
theorem less_val {u v d : Nat} (hu : u < 2 ^ 256) (hd : (u + 2 ^ 256 - v) % 2 ^ 256 = d) (h : ¬ u < v) : d = u - v := by omega
theorem bor_one {u v b : Nat} (hb : bor u v = b) : b = 1 ↔ u < v := by
  rw [← hb]; unfold bor; split <;> simp_all
def pr (b : Nat → Nat) (lo : Nat) : Nat → Nat
  | 0 => 0
  | n + 1 => pr b lo n * 256 + b (lo + n)
theorem pr_add (b : Nat → Nat) (lo n : Nat) : ∀ m, pr b lo (n + m) = pr b lo n * 256 ^ m + pr b (lo + n) m
  | 0 => by simp [pr]
  | m + 1 => by
    rw [← Nat.add_assoc, pr, pr, pr_add b lo n m, Nat.pow_succ, Nat.add_mul, Nat.mul_assoc, Nat.add_assoc lo n m, Nat.add_assoc]
theorem pr_lt (b : Nat → Nat) (hb : ∀ j, b j < 256) (lo : Nat) : ∀ n, pr b lo n < 256 ^ n
  | 0 => by simp [pr]
  | n + 1 => by
    have := pr_lt b hb lo n
    have h2 := hb (lo + n)
    rw [pr, Nat.pow_succ]
    omega
theorem pr_congr {b c : Nat → Nat} {lo : Nat} : ∀ n, (∀ j, lo ≤ j → j < lo + n → b j = c j) → pr b lo n = pr c lo n
  | 0, _ => rfl
  | n + 1, h => by rw [pr, pr, pr_congr n (fun j h1 h2 => h j h1 (by omega)), h (lo + n) (by omega) (by omega)]
theorem pr_lt32 {b : Nat → Nat} (hb : ∀ j, j < 32 → b j < 256) : pr b 0 32 < 2 ^ 256 := by
  rw [pr_congr (c := fun j => if j < 32 then b j else 0) 32 (fun j _ h => by simp at h; simp [h])]
  refine Nat.lt_of_lt_of_le (pr_lt _ (fun j => ?_) 0 32) (by decide)
  show (if j < 32 then b j else 0) < 256
  split
  · exact hb j (by assumption)
  · decide
theorem hfm_lt256 {a m : Nat} (ha : a < 2 ^ 256) (hm : m < 2 ^ 256) : hfm a m < 2 ^ 256 := by unfold hfm; split <;> omega
theorem limN_byte {S c k j : Nat} (hc : c < 256) (hk : k < 32) (hS : 256 ^ (k + 1) ∣ S) :
    limN (S + c * 256 ^ k) j = if j = k / 8 then limN S j ||| c * 2 ^ (8 * (k % 8)) % 18446744073709551616 else limN S j := by
  obtain ⟨t, rfl⟩ := hS
  have e256 : ∀ n, (256 : Nat) ^ n = 2 ^ (8 * n) := fun n => by rw [show (256 : Nat) = 2 ^ 8 from rfl, ← Nat.pow_mul]
  have hk8 : k % 8 < 8 := Nat.mod_lt _ (by decide)
  have hkd : 8 * k = 64 * (k / 8) + 8 * (k % 8) := by omega
  generalize hm : k / 8 = m at hkd ⊢
  generalize hs : k % 8 = s at hkd hk8 ⊢
  have hsm : c * 2 ^ (8 * s) < 18446744073709551616 := by
    have h1 : c * 2 ^ (8 * s) < 2 ^ 8 * 2 ^ (8 * s) := Nat.mul_lt_mul_of_pos_right hc (Nat.two_pow_pos _)
    rw [← Nat.pow_add] at h1
    have h2 : (2 : Nat) ^ (8 + 8 * s) ≤ 2 ^ 64 := Nat.pow_le_pow_right (by decide) (by omega)
    omega
  rw [e256, e256, Nat.mod_eq_of_lt hsm]
  unfold limN
  have eS : 2 ^ (8 * (k + 1)) * t = 2 ^ (64 * m) * (2 ^ (8 * s + 8) * t) := by
    rw [← Nat.mul_assoc, ← Nat.pow_add]; congr 2; omega
  have eC : c * 2 ^ (8 * k) = 2 ^ (64 * m) * (c * 2 ^ (8 * s)) := by rw [hkd, Nat.pow_add]; grind
  by_cases hj : j = m
  · rw [if_pos hj, hj, eS, eC, ← Nat.mul_add, Nat.mul_div_cancel_left _ (Nat.two_pow_pos _), Nat.mul_div_cancel_left _ (Nat.two_pow_pos _)]
    have hlt : c * 2 ^ (8 * s) < 2 ^ (8 * s + 8) := by rw [Nat.pow_add, Nat.mul_comm]; exact Nat.mul_lt_mul_of_pos_left hc (Nat.two_pow_pos _)
    have h64 : (2 : Nat) ^ 64 = 2 ^ (8 * s + 8) * 2 ^ (56 - 8 * s) := by rw [← Nat.pow_add]; congr 1; omega
    have e1 : 2 ^ (8 * s + 8) * t % 2 ^ 64 = 2 ^ (8 * s + 8) * (t % 2 ^ (56 - 8 * s)) := by rw [h64, Nat.mul_mod_mul_left]
    rw [e1, ← Nat.two_pow_add_eq_or_of_lt hlt, ← e1, Nat.add_mod, Nat.mod_eq_of_lt (a := c * 2 ^ (8 * s)) hsm, Nat.mod_eq_of_lt]
    rw [e1, h64]
    generalize hD : 2 ^ (8 * s + 8) = D at *
    generalize hE : 2 ^ (56 - 8 * s) = E at *
    have hE0 : 0 < E := by rw [← hE]; exact Nat.two_pow_pos _
    have h3 : t % E + 1 ≤ E := Nat.mod_lt _ hE0
    have h4 := Nat.mul_le_mul_left D h3
    rw [Nat.mul_add] at h4
    omega
  · rw [if_neg hj]
    rcases Nat.lt_or_ge j m with h | h
    · have z : ∀ x, 2 ^ (64 * m) * x / 2 ^ (64 * j) % 2 ^ 64 = 0 := by
        intro x
        obtain ⟨d, rfl⟩ : ∃ d, m = j + 1 + d := ⟨m - j - 1, by omega⟩
        rw [show 64 * (j + 1 + d) = 64 * j + (64 + 64 * d) by omega, Nat.pow_add, Nat.mul_assoc, Nat.mul_div_cancel_left _ (Nat.two_pow_pos _), Nat.pow_add, Nat.mul_assoc, Nat.mul_mod_right]
      rw [eS, eC, ← Nat.mul_add, z, z]
    · have hle : 8 * (k + 1) ≤ 64 * j := by omega
      have ed : (2 : Nat) ^ (64 * j) = 2 ^ (8 * (k + 1)) * 2 ^ (64 * j - 8 * (k + 1)) := by rw [← Nat.pow_add]; congr 1; omega
      have hlt : c * 2 ^ (8 * k) < 2 ^ (8 * (k + 1)) := by
        rw [show 8 * (k + 1) = 8 * k + 8 by omega, Nat.pow_add, Nat.mul_comm]; exact Nat.mul_lt_mul_of_pos_left hc (Nat.two_pow_pos _)
      rw [ed, ← Nat.div_div_eq_div_mul, ← Nat.div_div_eq_div_mul, Nat.add_comm, Nat.add_mul_div_left _ _ (Nat.two_pow_pos _), Nat.div_eq_of_lt hlt, Nat.zero_add, Nat.mul_div_cancel_left _ (Nat.two_pow_pos _)]
theorem read_start {b : Nat → Nat} : ∀ j, j < 4 → (fun _ => 0) j = limN (pr b 0 0 * 256 ^ (32 - 0)) j := fun j _ => by simp [pr, limN]
theorem read_lt {f : Nat → Nat} {n : Nat} (hf : ∀ j, j < 4 → f j = limN n j) (j : Nat) (h : j < 4) : f j < 18446744073709551616 := by rw [hf j h]; exact limN_lt n j
theorem read_step {b : Nat → Nat} {i : Nat} {f : Nat → Nat} (h : i < 32) (hb : b i < 256) (hf : ∀ j, j < 4 → f j = limN (pr b 0 i * 256 ^ (32 - i)) j) :
    ∀ j, j < 4 → upn f ((31 - i) / 8) (f ((31 - i) / 8) ||| b i * 2 ^ (8 * ((31 - i) % 8)) % 18446744073709551616) j = limN (pr b 0 (i + 1) * 256 ^ (32 - (i + 1))) j := by
  intro j hj
  have e : pr b 0 (i + 1) * 256 ^ (32 - (i + 1)) = pr b 0 i * 256 ^ (32 - i) + b i * 256 ^ (31 - i) := by
    rw [pr, Nat.zero_add, show 32 - i = (31 - i) + 1 by omega, show 32 - (i + 1) = 31 - i by omega, Nat.pow_succ]
    grind
  rw [e, limN_byte hb (by omega) ⟨pr b 0 i, by rw [show 31 - i + 1 = 32 - i by omega, Nat.mul_comm]⟩]
  unfold upn
  split
  · rename_i h1; rw [h1, hf _ (by omega)]
  · exact hf j hj
theorem rread_start {b : Nat → Nat} : ∀ j, j < 4 → (fun _ => 0) j = pr b (8 * (3 - j)) (min 8 (0 - 8 * (3 - j))) := fun j _ => by simp [pr]
theorem rread_at {i : Nat} (h : i < 32) : 8 * (3 - (3 - i / 8)) = 8 * (i / 8) ∧ min 8 (i - 8 * (i / 8)) = i % 8 := by omega
theorem rread_room {b : Nat → Nat} {i : Nat} {f : Nat → Nat} (hb : ∀ j, j < 32 → b j < 256) (h : i < 32) (hf : ∀ j, j < 4 → f j = pr b (8 * (3 - j)) (min 8 (i - 8 * (3 - j)))) : f (3 - i / 8) < 72057594037927936 := by
  obtain ⟨e1, e2⟩ := rread_at h
  rw [hf _ (by omega), e1, e2, pr_congr (c := fun j => if j < 32 then b j else 0) _ (fun j _ hj => by rw [if_pos (by omega)])]
  refine Nat.lt_of_lt_of_le (pr_lt _ (fun j => ?_) _ _) (Nat.le_trans (Nat.pow_le_pow_right (by decide) (show i % 8 ≤ 7 by omega)) (by decide))
  show (if j < 32 then b j else 0) < 256
  split
  · exact hb j (by assumption)
  · decide
theorem rread_step {b : Nat → Nat} {i : Nat} {f : Nat → Nat} (h : i < 32) (hf : ∀ j, j < 4 → f j = pr b (8 * (3 - j)) (min 8 (i - 8 * (3 - j)))) :
    ∀ j, j < 4 → upn f (3 - i / 8) (f (3 - i / 8) * 256 + b i) j = pr b (8 * (3 - j)) (min 8 (i + 1 - 8 * (3 - j))) := by
  intro j hj
  obtain ⟨e1, e2⟩ := rread_at h
  unfold upn
  by_cases hji : j = 3 - i / 8
  · rw [if_pos hji, hji, hf _ (by omega), e1, e2, show min 8 (i + 1 - 8 * (i / 8)) = i % 8 + 1 by omega, pr, show 8 * (i / 8) + i % 8 = i by omega]
  · rw [if_neg hji, hf j hj]
    congr 1
    omega
theorem rread_fin {b : Nat → Nat} {a j : Nat} (hb : ∀ j, j < 32 → b j < 256) (hx : pr b 0 32 = a) (hj : j < 4) : pr b (8 * (3 - j)) (min 8 (32 - 8 * (3 - j))) = limN a j := by
  have hc : ∀ lo n, lo + n ≤ 32 → pr b lo n < 256 ^ n := by
    intro lo n h
    rw [pr_congr (c := fun j => if j < 32 then b j else 0) _ (fun j _ hj => by rw [if_pos (by omega)])]
    refine pr_lt _ (fun j => ?_) _ _
    show (if j < 32 then b j else 0) < 256
    split
    · exact hb j (by assumption)
    · decide
  have h0 := hc 0 8 (by omega)
  have h1 := hc 8 8 (by omega)
  have h2 := hc 16 8 (by omega)
  have h3 := hc 24 8 (by omega)
  have e : a = pr b 0 8 * 2 ^ 192 + pr b 8 8 * 2 ^ 128 + pr b 16 8 * 2 ^ 64 + pr b 24 8 := by
    rw [← hx, show (32 : Nat) = 8 + 8 + 8 + 8 from rfl, pr_add, pr_add, pr_add]
    simp only [Nat.zero_add, show (8 : Nat) + 8 = 16 from rfl, show (16 : Nat) + 8 = 24 from rfl]
    have : (256 : Nat) ^ 8 = 2 ^ 64 := by decide
    rw [this]
    omega
  have h64 : (256 : Nat) ^ 8 = 2 ^ 64 := by decide
  rw [h64] at h0 h1 h2 h3
  rw [e]
  unfold limN
  match j, hj with
  | 0, _ => show pr b 24 8 = _; omega
  | 1, _ => show pr b 16 8 = _; omega
  | 2, _ => show pr b 8 8 = _; omega
  | 3, _ => show pr b 0 8 = _; omega
end Go.Proofs.YtejbajgpiecjcaaGreat

/- The contracts of Len64 (the walk after the kit's own at whatever program), wide.Len, the reference's Len. -/
namespace Go.Proofs.YtejbajgpiecjcaaGreat
open Go.RowKit
def ln (a : Nat) : Nat := if a = 0 then 0 else a.log2 + 1
theorem ln_unique {a n : Nat} (h1 : a < 2 ^ n) (h2 : n ≠ 0 → 2 ^ (n - 1) ≤ a) : ln a = n := by
  unfold ln
  by_cases ha : a = 0
  · rw [if_pos ha]
    by_cases hn : n = 0
    · exact hn.symm
    · have := h2 hn
      have := Nat.two_pow_pos (n - 1)
      omega
  · rw [if_neg ha]
    have hn : n ≠ 0 := by rintro rfl; simp at h1; exact ha h1
    have h3 := (Nat.log2_lt ha).2 h1
    have h4 := (Nat.le_log2 ha).2 (h2 hn)
    omega
theorem ln_spec (a : Nat) : a < 2 ^ ln a ∧ (a ≠ 0 → ln a ≠ 0 ∧ 2 ^ (ln a - 1) ≤ a) := by
  unfold ln
  by_cases ha : a = 0
  · subst ha; simp
  · rw [if_neg ha]
    exact ⟨Nat.lt_log2_self, fun _ => ⟨by omega, by simpa using Nat.log2_self_le ha⟩⟩
theorem aux_ln : ∀ f x, x < 2 ^ f → Lib.bitLenAux f x = ln x := by
  intro f
  induction f with
  | zero => intro x hx; have : x = 0 := by simpa using hx
            subst this; rfl
  | succ f ih =>
    intro x hx
    rw [Lib.bitLenAux]
    by_cases h0 : x = 0
    · subst h0; rfl
    · rw [if_neg h0, ih (x / 2) (by rw [Nat.pow_succ] at hx; omega)]
      symm
      obtain ⟨s1, s2⟩ := ln_spec (x / 2)
      refine ln_unique ?_ fun _ => ?_
      · rw [Nat.pow_add]; omega
      · by_cases h1 : x / 2 = 0
        · have : ln (x / 2) = 0 := by rw [h1]; rfl
          rw [this]; simp; omega
        · obtain ⟨s3, s4⟩ := s2 h1
          rw [show 1 + ln (x / 2) - 1 = (ln (x / 2) - 1) + 1 by omega, Nat.pow_succ]
          omega
theorem ln_le (a n : Nat) (h : a < 2 ^ n) : ln a ≤ n := by
  refine Classical.byContradiction fun hn => ?_
  have ha : a ≠ 0 := by rintro rfl; exact hn (Nat.zero_le _)
  obtain ⟨_, s2⟩ := ln_spec a
  obtain ⟨s3, s4⟩ := s2 ha
  have := Nat.pow_le_pow_right (n := 2) (by omega) (show n ≤ ln a - 1 by omega)
  omega
theorem ln_word (a i x : Nat) (h : a / 2 ^ i = x) (hx : x ≠ 0) : ln a = i + ln x := by
  obtain ⟨s1, s2⟩ := ln_spec x
  obtain ⟨s3, s4⟩ := s2 hx
  have hp := Nat.two_pow_pos i
  refine ln_unique ?_ fun _ => ?_
  · rw [Nat.pow_add]
    rw [← h] at s1 ⊢
    have := (Nat.div_lt_iff_lt_mul hp).1 s1; rwa [Nat.mul_comm] at this
  · rw [show i + ln x - 1 = i + (ln x - 1) by omega, Nat.pow_add]
    rw [← h] at s4 ⊢
    have := (Nat.le_div_iff_mul_le hp).1 s4; rwa [Nat.mul_comm] at this
theorem len64_any (x : Nat) (w : World) (h : x < 18446744073709551616) :
    Calls Tryz.prog 116 #[.int .u64 (x : Int)] w fun e w' => e = .returned (.int .i64 (ln x : Int)) ∧ w = w' :=
  (len64I x w (by omega) (by omega)).mono fun e w' ⟨h1, h2⟩ => ⟨by rw [h1, Lib.bitLen, Int.toNat_natCast, aux_ln 64 x h], h2.symm⟩
def LenInv (N : Nat) (w : World) (a : Nat) (i : Value) (wr : World) : Prop :=
  ∃ k : Nat, k ≤ 4 ∧ i = .int .i64 ((k : Int) - 1) ∧ Blk wr N 24 (Wc a) ∧ Below N w wr ∧ a / 2 ^ (64 * k) = 0
set_option maxHeartbeats 1000000 in
theorem len_any (w : World) (a : Nat) (ha : a < 2 ^ 256) :
    Calls Tryz.prog 74 #[W a] w fun e w' => e = .returned (.int .i64 (ln a : Int)) ∧ Below w.heap.size w w' := by
  have H0 : Hid (a / 2 ^ (64 * 4) = 0) := Nat.div_eq_of_lt ha
  clear ha
  go_enter Tryz.func74, Tryz.ntmps74
  go_wp2
  go_loopw [3] (fun i wr => LenInv w.heap.size w a i wr) (fun i _ => (intOf i + 1).toNat)
  case atStart => exact ⟨4, by omega, rfl, Blk.new w _ _ _ rfl, bl_al (Below.refl _ _) _, H0.out⟩
  case round =>
    obtain ⟨k, hk, rfl, b0, hbl, hq⟩ := hrel
    have HQ := Lib.hid hq
    clear hq
    rcases k with _ | k
    · go_wp2
      go_ret
      have : a = 0 := by have := HQ.out; simpa using this
      exact ⟨ret_int (by rw [this]; rfl), hbl⟩
    · obtain ⟨x, hx⟩ : ∃ x : Nat, a / 2 ^ (64 * k) % 2 ^ 64 = x := ⟨_, rfl⟩
      have hlt : k < 4 := by omega
      have c0 : wr.cell? ⟨w.heap.size, k, none⟩ = some (.int .u64 (x : Int)) := by rw [b0.cell, arr_get (lim a) k hlt, ← hx]; rfl
      have HX : Hid (a / 2 ^ (64 * k) = x) := by
        have := top_split a k
        rw [HQ.out, hx] at this
        show _ = _
        omega
      have HX2 : Hid (x < 18446744073709551616) := by rw [← hx]; exact Nat.mod_lt _ (by decide)
      clear hx
      by_cases h0 : x = 0
      · subst h0
        go_wp2
        go_roundw
        case rel => exact ⟨k, by omega, rfl, b0, hbl, HX.out⟩
        case measure => simp [intOf] <;> omega
      · have h0' : ((x : Int) != 0) = true := by simp only [bne_iff_ne, ne_eq]; omega
        have hln := ln_word a (64 * k) x HX.out h0
        have hle := ln_le x 64 HX2.out
        obtain ⟨L, hL⟩ : ∃ L, ln x = L := ⟨_, rfl⟩
        rw [hL] at hln hle
        have HL := Lib.hid hL
        have HN := Lib.hid hln
        clear hL hln
        go_wp2_with (go_at_call 116; refine (len64_any x _ HX2.out).mono ?_; rintro e w2 ⟨rfl, rfl⟩; rw [HL.out])
        go_ret
        exact ⟨ret_int (by rw [HN.out]; simp), hbl⟩
end Go.Proofs.YtejbajgpiecjcaaGreat

/- Plain number theory: permuted lists, primes, Fermat, Pocklington's test; the prime of the field and the order are primes. No program here. -/
namespace Go.Proofs.YtejbajgpiecjcaaGreat.EM
theorem perm_of_nodup {α : Type} [DecidableEq α] : ∀ (l1 l2 : List α), l1.Nodup → (∀ a ∈ l1, a ∈ l2) → l2.length ≤ l1.length → l1.Perm l2 := by
  intro l1
  induction l1 with
  | nil =>
    intro l2 _ _ hl
    have : l2 = [] := by cases l2 <;> simp_all
    subst this
    exact List.Perm.refl _
  | cons a t ih =>
    intro l2 hn hs hl
    have ha : a ∈ l2 := hs a (by simp)
    rw [List.nodup_cons] at hn
    have h1 : t.Perm (l2.erase a) := by
      refine ih _ hn.2 (fun b hb => ?_) ?_
      · have hne : b ≠ a := by
          rintro rfl
          exact hn.1 hb
        exact (List.mem_erase_of_ne hne).2 (hs b (by simp [hb]))
      · rw [List.length_erase_of_mem ha]
        simp at hl
        omega
    exact (List.Perm.cons a h1).trans (List.perm_cons_erase ha).symm
theorem map_perm {α : Type} [DecidableEq α] (l : List α) (f : α → α) (hn : l.Nodup) (hm : ∀ a ∈ l, f a ∈ l) (hi : ∀ a ∈ l, ∀ b ∈ l, f a = f b → a = b) : (l.map f).Perm l := by
  refine perm_of_nodup _ _ ?_ ?_ (by simp)
  · unfold List.Nodup at *
    rw [List.pairwise_map]
    refine hn.imp_of_mem ?_
    intro a b ha hb hne he
    exact hne (hi a ha b hb he)
  · intro b hb
    rw [List.mem_map] at hb
    obtain ⟨a, ha, rfl⟩ := hb
    exact hm a ha
def Pr (p : Nat) : Prop := 2 ≤ p ∧ ∀ m, m ∣ p → m = 1 ∨ m = p
theorem Pr.euclid {p a b : Nat} (h : Pr p) (hd : p ∣ a * b) : p ∣ a ∨ p ∣ b := by
  rcases h.2 (Nat.gcd p a) (Nat.gcd_dvd_left p a) with hg | hg
  · right
    exact Nat.Coprime.dvd_of_dvd_mul_left hg hd
  · left
    rw [← hg]
    exact Nat.gcd_dvd_right p a
theorem exists_least_divisor (n : Nat) (hn : 2 ≤ n) (hnp : ¬ Pr n) : ∃ r, Pr r ∧ r ∣ n ∧ r * r ≤ n := by
  have hex : ∃ m, m ∣ n ∧ m ≠ 1 ∧ m ≠ n := by
    refine Classical.byContradiction fun hc => hnp ⟨hn, fun m hm => ?_⟩
    by_cases h1 : m = 1
    · exact .inl h1
    · by_cases h2 : m = n
      · exact .inr h2
      · exact absurd ⟨m, hm, h1, h2⟩ hc
  obtain ⟨m, hm, h1, h2⟩ := hex
  have key : ∀ k m, m ≤ k → m ∣ n → m ≠ 1 → m ≠ n → ∃ r, Pr r ∧ r ∣ n ∧ r * r ≤ n := by
    intro k
    induction k with
    | zero =>
      intro m hk hd _ _
      have : m = 0 := by omega
      subst this
      have := Nat.eq_zero_of_zero_dvd hd
      omega
    | succ k ih =>
      intro m hk hd h1 h2
      obtain ⟨c, hc⟩ := hd
      have hm0 : m ≠ 0 := by
        rintro rfl
        simp at hc
        omega
      have hc1 : c ≠ 1 := by
        rintro rfl
        simp at hc
        exact h2 hc.symm
      have hcn : c ≠ n := by
        rintro rfl
        have : m * c = 1 * c := by omega
        exact h1 (Nat.eq_of_mul_eq_mul_right (by omega) this)
      by_cases hlt : c < m
      · exact ih c (by omega) ⟨m, by rw [Nat.mul_comm]; exact hc⟩ hc1 hcn
      · by_cases hp : Pr m
        · exact ⟨m, hp, ⟨c, hc⟩, by rw [hc]; exact Nat.mul_le_mul_left m (by omega)⟩
        · have : ∃ d, d ∣ m ∧ d ≠ 1 ∧ d ≠ m := by
            refine Classical.byContradiction fun hx => hp ⟨by omega, fun d hd => ?_⟩
            by_cases e1 : d = 1
            · exact .inl e1
            · by_cases e2 : d = m
              · exact .inr e2
              · exact absurd ⟨d, hd, e1, e2⟩ hx
          obtain ⟨d, hd, e1, e2⟩ := this
          have hdm : d ≤ m := Nat.le_of_dvd (by omega) hd
          have hdn : d ∣ n := Nat.dvd_trans hd ⟨c, hc⟩
          have hmn : m ≤ n := Nat.le_of_dvd (by omega) ⟨c, hc⟩
          exact ih d (by omega) hdn e1 (by omega)
  exact key m m (Nat.le_refl _) hm h1 h2
/-! ### powers in Fin p -/
section
variable {p : Nat} [NeZero p]
def fpow (a : Fin p) : Nat → Fin p
  | 0 => 1
  | k + 1 => fpow a k * a
theorem val1 : ((1 : Fin p)).val = 1 % p := rfl
theorem val0 : ((0 : Fin p)).val = 0 := by
  show 0 % p = 0
  exact Nat.zero_mod _
theorem fpow_val (a : Fin p) (k : Nat) : (fpow a k).val = a.val ^ k % p := by
  induction k with
  | zero => simp [fpow, val1]
  | succ k ih => rw [fpow, Fin.val_mul, ih, Nat.pow_succ, Nat.mod_mul_mod]
theorem fmul_comm (a b : Fin p) : a * b = b * a := by grind
theorem fmul_assoc (a b c : Fin p) : a * b * c = a * (b * c) := by grind
theorem fmul_one (a : Fin p) : a * 1 = a := by grind
theorem fpow_add (a : Fin p) (j k : Nat) : fpow a (j + k) = fpow a j * fpow a k := by
  induction k with
  | zero => simp only [fpow, Nat.add_zero]; grind
  | succ k ih => rw [← Nat.add_assoc, fpow, ih, fpow]; grind
theorem fpow_mul (a : Fin p) (j k : Nat) : fpow a (j * k) = fpow (fpow a j) k := by
  induction k with
  | zero => simp [fpow]
  | succ k ih => rw [Nat.mul_succ, fpow_add, ih, fpow]
theorem fpow_one (k : Nat) : fpow (1 : Fin p) k = 1 := by
  induction k with
  | zero => rfl
  | succ k ih => rw [fpow, ih]; grind
theorem fmul_zero_of (h : Pr p) (a b : Fin p) (hab : a * b = 0) : a = 0 ∨ b = 0 := by
  have h1 : a.val * b.val % p = 0 := by
    have := congrArg Fin.val hab
    rw [Fin.val_mul] at this
    simpa using this
  rcases h.euclid (Nat.dvd_of_mod_eq_zero h1) with h2 | h2
  · left
    apply Fin.ext
    have := Nat.eq_zero_of_dvd_of_lt h2 a.isLt
    simpa using this
  · right
    apply Fin.ext
    have := Nat.eq_zero_of_dvd_of_lt h2 b.isLt
    simpa using this
def lprod : List (Fin p) → Fin p
  | [] => 1
  | a :: l => a * lprod l
theorem lprod_perm {l1 l2 : List (Fin p)} (h : l1.Perm l2) : lprod l1 = lprod l2 := by
  induction h with
  | nil => rfl
  | cons x _ ih => simp only [lprod, ih]
  | swap x y l => simp only [lprod]; grind
  | trans _ _ ih1 ih2 => rw [ih1, ih2]
theorem lprod_map (a : Fin p) (l : List (Fin p)) : lprod (l.map (a * ·)) = fpow a l.length * lprod l := by
  induction l with
  | nil => simp only [lprod, List.map, List.length, fpow]; grind
  | cons b l ih => simp only [lprod, List.map, List.length, fpow, ih]; grind
theorem lprod_ne (h : Pr p) (l : List (Fin p)) (hl : ∀ a ∈ l, a ≠ 0) : lprod l ≠ 0 := by
  induction l with
  | nil =>
    intro h0
    have := congrArg Fin.val h0
    simp only [lprod, val1, val0] at this
    have h2 := h.1
    rw [Nat.mod_eq_of_lt (by omega)] at this
    omega
  | cons a l ih =>
    intro h0
    rcases fmul_zero_of h _ _ h0 with h1 | h1
    · exact hl a (by simp) h1
    · exact ih (fun b hb => hl b (by simp [hb])) h1
def units (p : Nat) [NeZero p] : List (Fin p) := (List.finRange p).filter (· ≠ 0)
theorem mem_units (a : Fin p) : a ∈ units p ↔ a ≠ 0 := by
  simp [units]
theorem nodup_units : (units p).Nodup := by
  unfold units
  exact List.Pairwise.filter _ (List.nodup_finRange p)
theorem length_units : (units p).length = p - 1 := by
  have h0 : (0 : Fin p) ∈ List.finRange p := List.mem_finRange _
  have h1 : (0 :: units p).Perm (List.finRange p) := by
    have hcov : ∀ a ∈ List.finRange p, a ∈ (0 :: units p) := fun a _ => by
      by_cases h : a = 0
      · simp [h]
      · simp [mem_units, h]
    refine (perm_of_nodup _ _ (List.nodup_finRange p) hcov ?_).symm
    have hp : (0 :: units p).Nodup := by
      rw [List.nodup_cons]
      exact ⟨by simp [mem_units], nodup_units⟩
    exact hp.length_le_of_subset (fun a _ => List.mem_finRange a)
  have := h1.length_eq
  simp at this
  omega
theorem fermat (h : Pr p) (a : Fin p) (ha : a ≠ 0) : fpow a (p - 1) = 1 := by
  have hperm : ((units p).map (a * ·)).Perm (units p) := by
    refine map_perm _ _ nodup_units ?_ ?_
    · intro b hb
      rw [mem_units] at *
      intro h0
      rcases fmul_zero_of h _ _ h0 with h1 | h1
      · exact ha h1
      · exact hb h1
    · intro b _ c _ hbc
      have hz : a * (b - c) = 0 := by grind
      rcases fmul_zero_of h _ _ hz with h1 | h1
      · exact absurd h1 ha
      · grind
  have h1 := lprod_perm hperm
  rw [lprod_map, length_units] at h1
  have h2 : (fpow a (p - 1) - 1) * lprod (units p) = 0 := by grind
  rcases fmul_zero_of h _ _ h2 with h3 | h3
  · grind
  · exact absurd h3 (lprod_ne h _ fun b hb => (mem_units b).1 hb)
theorem fpow_gcd (b : Fin p) : ∀ m k, fpow b m = 1 → fpow b k = 1 → fpow b (Nat.gcd m k) = 1 := by
  intro m k
  induction m, k using Nat.gcd.induction with
  | H0 k => intro _ hk; simpa using hk
  | H1 m k hm ih =>
    intro h1 h2
    rw [Nat.gcd_rec]
    refine ih ?_ h1
    have hk : fpow b (m * (k / m) + k % m) = 1 := by rw [Nat.div_add_mod]; exact h2
    rw [fpow_add, fpow_mul, h1, fpow_one] at hk
    grind
end
theorem order_dvd {r q : Nat} [NeZero r] (hr : Pr r) (hq : Pr q) (b : Fin r) (hb0 : b ≠ 0) (hb1 : b ≠ 1) (hb : fpow b q = 1) : q ∣ r - 1 := by
  have h := fpow_gcd b q (r - 1) hb (fermat hr b hb0)
  rcases hq.2 _ (Nat.gcd_dvd_left q (r - 1)) with hg | hg
  · rw [hg] at h
    simp only [fpow] at h
    exact absurd (by grind) hb1
  · rw [← hg]
    exact Nat.gcd_dvd_right _ _
def mp (n : Nat) : Nat → Nat → Nat → Nat
  | 0, _, _ => 1 % n
  | f + 1, b, e => if e = 0 then 1 % n else if e % 2 = 1 then mp n f (b * b % n) (e / 2) * b % n else mp n f (b * b % n) (e / 2)
theorem mp_eq (n : Nat) : ∀ f b e, e < 2 ^ f → mp n f b e = b ^ e % n := by
  intro f
  induction f with
  | zero =>
    intro b e he
    have : e = 0 := by simpa using he
    subst this
    simp [mp]
  | succ f ih =>
    intro b e he
    rw [mp]
    by_cases h0 : e = 0
    · simp [h0]
    · rw [if_neg h0]
      have he2 : e / 2 < 2 ^ f := by rw [Nat.pow_succ] at he; omega
      have hs : b ^ e = (b * b) ^ (e / 2) * b ^ (e % 2) := by
        rw [← Nat.pow_two, ← Nat.pow_mul, ← Nat.pow_add, Nat.div_add_mod]
      rw [ih _ _ he2, ← Nat.pow_mod, hs]
      by_cases h1 : e % 2 = 1
      · rw [if_pos h1, h1, Nat.mod_mul_mod, Nat.pow_one]
      · rw [if_neg h1]
        have : e % 2 = 0 := by omega
        rw [this, Nat.pow_zero, Nat.mul_one]
theorem pock_dvd {n q R a : Nat} (hn : n = q * R + 1) (hq : Pr q) (h1 : a ^ (n - 1) % n = 1) (h2 : Nat.gcd (a ^ R % n + (n - 1)) n = 1) {r : Nat} (hr : Pr r) (hd : r ∣ n) : q ∣ r - 1 := by
  have hr2 := hr.1
  haveI : NeZero r := ⟨by omega⟩
  have hmod : ∀ x : Nat, x % n % r = x % r := fun x => Nat.mod_mod_of_dvd x hd
  let b : Fin r := Fin.ofNat r (a ^ R)
  have hbv : b.val = a ^ R % r := rfl
  have hnr : n - 1 = R * q := by rw [hn, Nat.mul_comm]; simp
  have hone : fpow b q = 1 := by
    apply Fin.ext
    rw [fpow_val, hbv, ← Nat.pow_mod, ← Nat.pow_mul, ← hnr, val1, ← hmod, h1]
  have hne1 : b ≠ 1 := by
    intro he
    have hv : a ^ R % r = 1 % r := by
      have := congrArg Fin.val he
      rwa [hbv, val1] at this
    have hdv : r ∣ a ^ R % n + (n - 1) := by
      apply Nat.dvd_of_mod_eq_zero
      rw [Nat.add_mod, hmod, hv, ← Nat.add_mod]
      have h1n : 1 + (n - 1) = n := by rw [hn]; omega
      rw [h1n]
      exact Nat.mod_eq_zero_of_dvd hd
    have := Nat.dvd_gcd hdv hd
    rw [h2] at this
    have := Nat.le_of_dvd (by omega) this
    omega
  have hne0 : b ≠ 0 := by
    intro he
    have hq1 := hq.1
    obtain ⟨k, rfl⟩ : ∃ k, q = k + 1 := ⟨q - 1, by omega⟩
    rw [fpow, he] at hone
    have h3 : (1 : Fin r) = 0 := by rw [← hone]; grind
    have := congrArg Fin.val h3
    rw [val1, val0, Nat.mod_eq_of_lt (by omega)] at this
    omega
  exact order_dvd hr hq b hne0 hne1 hone
theorem pock {n q R a : Nat} (hn : n = q * R + 1) (hn2 : 2 ≤ n) (hq : Pr q) (h1 : a ^ (n - 1) % n = 1) (h2 : Nat.gcd (a ^ R % n + (n - 1)) n = 1) (hlt : n < q * q) : Pr n := by
  refine Classical.byContradiction fun hnp => ?_
  obtain ⟨r, hr, hd, hle⟩ := exists_least_divisor n hn2 hnp
  have h3 := pock_dvd hn hq h1 h2 hr hd
  have hr2 := hr.1
  have h4 : q ≤ r - 1 := Nat.le_of_dvd (by omega) h3
  have h5 : q * q ≤ r * r := Nat.mul_le_mul (by omega) (by omega)
  omega
theorem pock2 {n q R a q' R' a' : Nat} (hn2 : 2 ≤ n) (hn : n = q * R + 1) (hq : Pr q) (h1 : a ^ (n - 1) % n = 1) (h2 : Nat.gcd (a ^ R % n + (n - 1)) n = 1)
    (hn' : n = q' * R' + 1) (hq' : Pr q') (h1' : a' ^ (n - 1) % n = 1) (h2' : Nat.gcd (a' ^ R' % n + (n - 1)) n = 1) (hc : Nat.gcd q q' = 1) (hlt : n < (q * q') * (q * q')) : Pr n := by
  refine Classical.byContradiction fun hnp => ?_
  obtain ⟨r, hr, hd, hle⟩ := exists_least_divisor n hn2 hnp
  have h3 := pock_dvd hn hq h1 h2 hr hd
  have h3' := pock_dvd hn' hq' h1' h2' hr hd
  have h6 : q * q' ∣ r - 1 := Nat.Coprime.mul_dvd_of_dvd_of_dvd hc h3 h3'
  have hr2 := hr.1
  have h4 : q * q' ≤ r - 1 := Nat.le_of_dvd (by omega) h6
  have h5 : (q * q') * (q * q') ≤ r * r := Nat.mul_le_mul (by omega) (by omega)
  omega
def trial (n : Nat) : Nat → Bool
  | 0 => true
  | k + 1 => (n % (k + 2) != 0) && trial n k
theorem trial_sound (n : Nat) : ∀ k, trial n k = true → ∀ m, 2 ≤ m → m ≤ k + 1 → ¬ m ∣ n := by
  intro k
  induction k with
  | zero => intro _ m h1 h2; omega
  | succ k ih =>
    intro h m h1 h2 hd
    simp only [trial, Bool.and_eq_true, bne_iff_ne, ne_eq] at h
    by_cases hm : m = k + 2
    · subst hm
      exact h.1 (Nat.mod_eq_zero_of_dvd hd)
    · exact ih h.2 m h1 (by omega) hd
theorem prime_trial (n k : Nat) (hn : 2 ≤ n) (hk : n < (k + 2) * (k + 2)) (h : trial n k = true) : Pr n := by
  refine Classical.byContradiction fun hnp => ?_
  obtain ⟨r, hr, hd, hle⟩ := exists_least_divisor n hn hnp
  refine trial_sound n k h r hr.1 ?_ hd
  refine Classical.byContradiction fun hlt => ?_
  have : (k + 2) * (k + 2) ≤ r * r := Nat.mul_le_mul (by omega) (by omega)
  omega
theorem pock3 {n q R a q' R' a' p S e : Nat} (hn2 : 2 ≤ n) (hn : n = q * R + 1) (hq : Pr q) (h1 : a ^ (n - 1) % n = 1) (h2 : Nat.gcd (a ^ R % n + (n - 1)) n = 1)
    (hn' : n = q' * R' + 1) (hq' : Pr q') (h1' : a' ^ (n - 1) % n = 1) (h2' : Nat.gcd (a' ^ R' % n + (n - 1)) n = 1)
    (hnp : n = p * S + 1) (hp : Pr p) (h3 : e ^ (n - 1) % n = 1) (h4 : Nat.gcd (e ^ S % n + (n - 1)) n = 1) (hc : Nat.gcd q q' = 1) (hc' : Nat.gcd (q * q') p = 1) (hlt : n < (q * q' * p) * (q * q' * p)) : Pr n := by
  refine Classical.byContradiction fun hnp' => ?_
  obtain ⟨r, hr, hd, hle⟩ := exists_least_divisor n hn2 hnp'
  have e1 := pock_dvd hn hq h1 h2 hr hd
  have e2 := pock_dvd hn' hq' h1' h2' hr hd
  have e3 := pock_dvd hnp hp h3 h4 hr hd
  have e4 : q * q' ∣ r - 1 := Nat.Coprime.mul_dvd_of_dvd_of_dvd hc e1 e2
  have e5 : q * q' * p ∣ r - 1 := Nat.Coprime.mul_dvd_of_dvd_of_dvd hc' e4 e3
  have hr2 := hr.1
  have h4 : q * q' * p ≤ r - 1 := Nat.le_of_dvd (by omega) e5
  have h5 : (q * q' * p) * (q * q' * p) ≤ r * r := Nat.mul_le_mul (by omega) (by omega)
  omega
def pok (n q R a : Nat) : Bool := Nat.beq n (q * R + 1) && (Nat.beq (mp n 256 a (n - 1)) 1 && Nat.beq (Nat.gcd (mp n 256 a R + (n - 1)) n) 1)
theorem pok_sound {n q R a : Nat} (hb : n < 2 ^ 256) (hR : R < 2 ^ 256) (h : pok n q R a = true) : n = q * R + 1 ∧ a ^ (n - 1) % n = 1 ∧ Nat.gcd (a ^ R % n + (n - 1)) n = 1 := by
  unfold pok at h
  simp only [Bool.and_eq_true] at h
  have h2 := Nat.eq_of_beq_eq_true h.2.1
  have h3 := Nat.eq_of_beq_eq_true h.2.2
  rw [mp_eq n 256 a (n - 1) (by omega)] at h2
  rw [mp_eq n 256 a R hR] at h3
  exact ⟨Nat.eq_of_beq_eq_true h.1, h2, h3⟩
theorem pockc1 {n q0 R0 a0 : Nat} (hq0 : Pr q0) (h : (pok n q0 R0 a0 && (Nat.blt n (2 ^ 256) && (Nat.blt R0 (2 ^ 256) && (Nat.ble 2 n && Nat.blt n (q0 * q0))))) = true) : Pr n := by
  simp only [Bool.and_eq_true, Nat.blt_eq, Nat.ble_eq] at h
  obtain ⟨h0, hb, hR, h2, hlt⟩ := h
  obtain ⟨e0, e1, e2⟩ := pok_sound hb hR h0
  exact pock e0 h2 hq0 e1 e2 hlt
theorem pockc2 {n q0 R0 a0 q1 R1 a1 : Nat} (hq0 : Pr q0) (hq1 : Pr q1) (h : (pok n q0 R0 a0 && (pok n q1 R1 a1 && (Nat.blt n (2 ^ 256) && (Nat.blt R0 (2 ^ 256) && (Nat.blt R1 (2 ^ 256) && (Nat.ble 2 n && (Nat.beq (Nat.gcd q0 q1) 1 && Nat.blt n (q0 * q1 * (q0 * q1))))))))) = true) : Pr n := by
  simp only [Bool.and_eq_true, Nat.blt_eq, Nat.ble_eq] at h
  obtain ⟨h0, h1, hb, hR, hR1, h2, hc, hlt⟩ := h
  obtain ⟨e0, e1, e2⟩ := pok_sound hb hR h0
  obtain ⟨f0, f1, f2⟩ := pok_sound hb hR1 h1
  exact pock2 h2 e0 hq0 e1 e2 f0 hq1 f1 f2 (Nat.eq_of_beq_eq_true hc) hlt
theorem pockc3 {n q0 R0 a0 q1 R1 a1 q2 R2 a2 : Nat} (hq0 : Pr q0) (hq1 : Pr q1) (hq2 : Pr q2) (h : (pok n q0 R0 a0 && (pok n q1 R1 a1 && (pok n q2 R2 a2 && (Nat.blt n (2 ^ 256) && (Nat.blt R0 (2 ^ 256) && (Nat.blt R1 (2 ^ 256) && (Nat.blt R2 (2 ^ 256) && (Nat.ble 2 n && (Nat.beq (Nat.gcd q0 q1) 1 && (Nat.beq (Nat.gcd (q0 * q1) q2) 1 && Nat.blt n (q0 * q1 * q2 * (q0 * q1 * q2)))))))))))) = true) : Pr n := by
  simp only [Bool.and_eq_true, Nat.blt_eq, Nat.ble_eq] at h
  obtain ⟨h0, h1, h1', hb, hR, hR1, hR2, h2, hc, hc', hlt⟩ := h
  obtain ⟨e0, e1, e2⟩ := pok_sound hb hR h0
  obtain ⟨f0, f1, f2⟩ := pok_sound hb hR1 h1
  obtain ⟨g0, g1, g2⟩ := pok_sound hb hR2 h1'
  exact pock3 h2 e0 hq0 e1 e2 f0 hq1 f1 f2 g0 hq2 g1 g2 (Nat.eq_of_beq_eq_true hc) (Nat.eq_of_beq_eq_true hc') hlt
theorem pr_53 : Pr 53 := prime_trial 53 7 (by decide) (by decide) (by decide +kernel)
theorem pr_29 : Pr 29 := prime_trial 29 5 (by decide) (by decide) (by decide +kernel)
theorem pr_7 : Pr 7 := prime_trial 7 2 (by decide) (by decide) (by decide +kernel)
theorem pr_b3 : Pr 107590001 := pockc3 (q0 := 53) (R0 := 2030000) (a0 := 2) (q1 := 29) (R1 := 3710000) (a1 := 2) (q2 := 7) (R2 := 15370000) (a2 := 2) pr_53 pr_29 pr_7 (by decide +kernel)
theorem pr_419 : Pr 419 := prime_trial 419 20 (by decide) (by decide) (by decide +kernel)
theorem pr_20113 : Pr 20113 := pockc1 (q0 := 419) (R0 := 48) (a0 := 2) pr_419 (by decide +kernel)
theorem pr_b6 : Pr 1206781 := pockc1 (q0 := 20113) (R0 := 60) (a0 := 2) pr_20113 (by decide +kernel)
theorem pr_b7 : Pr 7240687 := pockc1 (q0 := 1206781) (R0 := 6) (a0 := 2) pr_b6 (by decide +kernel)
theorem pr_239 : Pr 239 := prime_trial 239 15 (by decide) (by decide) (by decide +kernel)
theorem pr_101 : Pr 101 := prime_trial 101 10 (by decide) (by decide) (by decide +kernel)
theorem pr_96557 : Pr 96557 := pockc2 (q0 := 239) (R0 := 404) (a0 := 2) (q1 := 101) (R1 := 956) (a1 := 2) pr_239 pr_101 (by decide +kernel)
theorem pr_b11 : Pr 255515944373312847190720520512484175977 := pockc3 (q0 := 107590001) (R0 := 2374904191824599455024826335976) (a0 := 2) (q1 := 7240687) (R1 := 35288908963101546467996824129048) (a1 := 2) (q2 := 96557) (R2 := 2646270538369179315748423423599368) (a2 := 2) pr_b3 pr_b7 pr_96557 (by decide +kernel)
theorem pr_b12 : Pr 205115282021455665897114700593932402728804164701536103180137503955397371 := pockc1 (q0 := 255515944373312847190720520512484175977) (R0 := 802749442992798076634733441528810) (a0 := 2) pr_b11 (by decide +kernel)
theorem pr_field : Pr 115792089237316195423570985008687907853269984665640564039457584007908834671663 := pockc1 (q0 := 205115282021455665897114700593932402728804164701536103180137503955397371) (R0 := 564522) (a0 := 2) pr_b12 (by decide +kernel)
end Go.Proofs.YtejbajgpiecjcaaGreat.EM

/- Powers modulo a number, bit by bit; inverses modulo a prime. No program here. -/
namespace Go.Proofs.YtejbajgpiecjcaaGreat
def pinv (N a : Nat) : Nat := a ^ (N - 2) % N
theorem fermatN {N a : Nat} (hN : EM.Pr N) (h : a % N ≠ 0) : a ^ (N - 1) % N = 1 := by
  have h2 := hN.1
  haveI : NeZero N := ⟨by omega⟩
  have hb : (Fin.ofNat N a) ≠ 0 := by
    intro h0
    have := congrArg Fin.val h0
    rw [EM.val0] at this
    exact h this
  have := congrArg Fin.val (EM.fermat hN (Fin.ofNat N a) hb)
  rw [EM.fpow_val, EM.val1] at this
  have e : (Fin.ofNat N a).val = a % N := rfl
  rw [e, ← Nat.pow_mod, Nat.mod_eq_of_lt (a := 1) (by omega)] at this
  exact this
theorem pinv_lt {N a : Nat} (hN : 0 < N) : pinv N a < N := Nat.mod_lt _ hN
theorem pinv_mul {N a : Nat} (hN : EM.Pr N) (h : a % N ≠ 0) : pinv N a * a % N = 1 := by
  have h2 := hN.1
  unfold pinv
  rw [Nat.mod_mul_mod, ← Nat.pow_succ, show (N - 2).succ = N - 1 by omega]
  exact fermatN hN h
theorem pinv_zero {N : Nat} (hN : 2 < N) : pinv N 0 = 0 := by
  unfold pinv
  rw [Nat.zero_pow (by omega), Nat.zero_mod]
theorem inv_uniq {N a y : Nat} (hN : EM.Pr N) (h : a % N ≠ 0) (hy : y < N) (hya : y * a % N = 1) : y = pinv N a := by
  have h1 := pinv_mul hN h
  have e1 : y * (pinv N a * a) % N = y := by rw [← Nat.mul_mod_mod, h1, Nat.mul_one, Nat.mod_eq_of_lt hy]
  have e2 : pinv N a * (y * a) % N = pinv N a := by rw [← Nat.mul_mod_mod, hya, Nat.mul_one, Nat.mod_eq_of_lt (pinv_lt (by omega))]
  rw [← e1, ← e2]
  exact congrArg (· % N) (by grind)
theorem gcd_one {N a : Nat} (hN : EM.Pr N) (ha : a < N) (h0 : a ≠ 0) : Nat.gcd a N = 1 := by
  rcases hN.2 _ (Nat.gcd_dvd_right a N) with h | h
  · exact h
  · have := Nat.le_of_dvd (by omega) (h ▸ Nat.gcd_dvd_left a N)
    omega
theorem pinv_mod {N a : Nat} : pinv N (a % N) = pinv N a := by unfold pinv; rw [← Nat.pow_mod]
theorem shr_lt {x k : Nat} (h : x < 2 ^ 64) : x / 2 ^ k < 2 ^ 64 := Nat.lt_of_le_of_lt (Nat.div_le_self _ _) h
section
variable {N P n i o p r : Nat}
theorem pow_start (hN : 1 < N) : P ^ (n % 2 ^ 0) % N = 1 := by rw [Nat.pow_zero, Nat.mod_one, Nat.pow_zero, Nat.mod_eq_of_lt hN]
theorem pow_start2 (hP : P < N) : P ^ (2 ^ 0) % N = P := by rw [Nat.pow_zero, Nat.pow_one, Nat.mod_eq_of_lt hP]
theorem pow_low (n i : Nat) : n % 2 ^ (i + 1) = n % 2 ^ i + 2 ^ i * (n / 2 ^ i % 2) := by rw [Nat.pow_succ]; exact Nat.mod_mul
theorem pow_yes (ho : P ^ (n % 2 ^ i) % N = o) (hp : P ^ (2 ^ i) % N = p) (hr : o * p % N = r) (hb : n / 2 ^ i % 2 ≠ 0) : P ^ (n % 2 ^ (i + 1)) % N = r := by
  rw [pow_low, show n / 2 ^ i % 2 = 1 by omega, Nat.mul_one, Nat.pow_add, Nat.mul_mod, ho, hp, hr]
theorem pow_no (ho : P ^ (n % 2 ^ i) % N = o) (hb : ¬ n / 2 ^ i % 2 ≠ 0) : P ^ (n % 2 ^ (i + 1)) % N = o := by
  rw [pow_low, show n / 2 ^ i % 2 = 0 by omega, Nat.mul_zero, Nat.add_zero, ho]
theorem pow_sq (hp : P ^ (2 ^ i) % N = p) (hr : p * p % N = r) : P ^ (2 ^ (i + 1)) % N = r := by
  rw [Nat.pow_succ, Nat.pow_mul, Nat.pow_two, Nat.mul_mod, hp, hr]
theorem pow_end (ho : P ^ (n % 2 ^ ln n) % N = o) : P ^ n % N = o := by rw [← ho, Nat.mod_eq_of_lt (ln_spec n).1]
end
end Go.Proofs.YtejbajgpiecjcaaGreat

/- Digits of 32 bits: products, and the fold. No program here. -/
namespace Go.Proofs.YtejbajgpiecjcaaGreat
def p3 (k : Nat) : Nat := 2 ^ (32 * k)
theorem p3_pos (k : Nat) : 0 < p3 k := Nat.two_pow_pos _
theorem p3_succ (k : Nat) : p3 (k + 1) = p3 k * 4294967296 := by unfold p3; rw [show 32 * (k + 1) = 32 * k + 32 by omega, Nat.pow_add]
theorem p3_add (j k : Nat) : p3 (j + k) = p3 j * p3 k := by unfold p3; rw [← Nat.pow_add]; congr 1; omega
def h3 (n k : Nat) : Nat := n / p3 k % 4294967296
theorem h3_lt (n k : Nat) : h3 n k < 4294967296 := Nat.mod_lt _ (by decide)
theorem div_h3 (n k : Nat) : n / p3 k = h3 n k + 4294967296 * (n / p3 (k + 1)) := by
  unfold h3
  rw [p3_succ, ← Nat.div_div_eq_div_mul, Nat.add_comm]
  exact (Nat.div_add_mod _ _).symm
theorem h3_add_mul (n m j k : Nat) (h : j < k) : h3 (n + m * p3 k) j = h3 n j := by
  unfold h3
  obtain ⟨d, rfl⟩ : ∃ d, k = j + 1 + d := ⟨k - (j + 1), by omega⟩
  have e : m * p3 (j + 1 + d) = p3 j * (4294967296 * (m * p3 d)) := by
    rw [p3_add, p3_succ]; grind
  rw [e, Nat.add_mul_div_left _ _ (p3_pos j), Nat.add_mul_mod_self_left]
def In3 (V x b i k carry : Nat) : Prop :=
  (V + x * p3 i * (b % p3 k)) / p3 (i + k) = V / p3 (i + k) + carry ∧ carry < 4294967296
def T3 (V x b i k : Nat) : Nat := V + x * p3 i * (b % p3 k)
theorem T3_succ (V x b i k : Nat) : T3 V x b i (k + 1) = T3 V x b i k + (x * h3 b k) * p3 (i + k) := by
  unfold T3 h3
  have : b % p3 (k + 1) = b % p3 k + p3 k * (b / p3 k % 4294967296) := by rw [p3_succ]; exact Nat.mod_mul
  rw [this, p3_add]
  grind
theorem in3_zero (V x b i : Nat) : In3 V x b i 0 0 := by
  unfold In3
  have : b % p3 0 = 0 := by unfold p3; simp [Nat.mod_one]
  rw [this]; simp
theorem in3_step (V x b i k carry : Nat) (hx : x < 4294967296) (h : In3 V x b i k carry) :
    In3 V x b i (k + 1) ((x * h3 b k + h3 V (i + k) + carry) / 4294967296) ∧ h3 (T3 V x b i (k + 1)) (i + k) = (x * h3 b k + h3 V (i + k) + carry) % 4294967296 := by
  obtain ⟨h1, h2⟩ := h
  have hy := h3_lt b k
  have hv := h3_lt V (i + k)
  have e1 : T3 V x b i (k + 1) / p3 (i + k) = (x * h3 b k + h3 V (i + k) + carry) + 4294967296 * (V / p3 (i + k + 1)) := by
    rw [T3_succ, Nat.add_mul_div_right _ _ (p3_pos _)]
    unfold T3
    rw [h1, div_h3 V (i + k)]
    omega
  refine ⟨⟨?_, ?_⟩, ?_⟩
  · show T3 V x b i (k + 1) / p3 (i + (k + 1)) = _
    have : i + (k + 1) = (i + k) + 1 := by omega
    rw [this, p3_succ, ← Nat.div_div_eq_div_mul, e1, Nat.add_mul_div_left _ _ (by decide), ← p3_succ]
    omega
  · have h3 : x * h3 b k ≤ 4294967295 * 4294967295 := Nat.mul_le_mul (by omega) (by omega)
    rw [Nat.div_lt_iff_lt_mul (by decide)]
    omega
  · show T3 V x b i (k + 1) / p3 (i + k) % 4294967296 = _
    rw [e1, Nat.add_mul_mod_self_left]
def mix3 (V x b i k : Nat) : Nat → Nat := fun j => if j < i + k then h3 (T3 V x b i k) j else h3 V j
theorem mix3_step (V x b i k c S : Nat) (hx : x < 4294967296) (h : In3 V x b i k c) (hS : (x * h3 b k + h3 V (i + k) + c) % 4294967296 = S) :
    ∀ j, upn (mix3 V x b i k) (i + k) S j = mix3 V x b i (k + 1) j := by
  intro j
  have hs := (in3_step V x b i k c hx h).2
  unfold upn mix3
  by_cases hj : j = i + k
  · rw [if_pos hj, if_pos (by omega), hj, hs, hS]
  · rw [if_neg hj]
    by_cases hj2 : j < i + k
    · rw [if_pos hj2, if_pos (by omega), T3_succ, h3_add_mul _ _ _ _ hj2]
    · rw [if_neg hj2, if_neg (by omega)]
def V3 (a b i : Nat) : Nat := a % p3 i * b
theorem T3_full (a b i : Nat) (hb : b < p3 8) : T3 (V3 a b i) (h3 a i) b i 8 = V3 a b (i + 1) := by
  unfold T3 V3
  have h4 : b % p3 8 = b := Nat.mod_eq_of_lt hb
  have : a % p3 (i + 1) = a % p3 i + p3 i * (a / p3 i % 4294967296) := by rw [p3_succ]; exact Nat.mod_mul
  rw [h4, this]
  unfold h3
  grind
theorem V3_lt (a b i : Nat) (hb : b < p3 8) : V3 a b i < p3 (i + 8) := by
  unfold V3
  rw [p3_add]
  exact Nat.mul_lt_mul_of_lt_of_le (Nat.mod_lt _ (p3_pos i)) (Nat.le_of_lt hb) (Nat.zero_lt_of_lt hb)
theorem in3_last (a b i c : Nat) (hb : b < p3 8) (h : In3 (V3 a b i) (h3 a i) b i 8 c) : ∀ j, upn (mix3 (V3 a b i) (h3 a i) b i 8) (i + 8) c j = h3 (V3 a b (i + 1)) j := by
  intro j
  obtain ⟨h1, h2⟩ := h
  have e : T3 (V3 a b i) (h3 a i) b i 8 = V3 a b (i + 1) := T3_full a b i hb
  have z : V3 a b i / p3 (i + 8) = 0 := Nat.div_eq_of_lt (V3_lt a b i hb)
  have e1 : V3 a b (i + 1) / p3 (i + 8) = c := by
    rw [← e]; show (V3 a b i + h3 a i * p3 i * (b % p3 8)) / p3 (i + 8) = c
    rw [h1, z, Nat.zero_add]
  unfold upn mix3
  by_cases hj : j = i + 8
  · rw [if_pos hj, hj]; unfold h3; rw [e1, Nat.mod_eq_of_lt h2]
  · rw [if_neg hj, e]
    by_cases hj2 : j < i + 8
    · rw [if_pos hj2]
    · rw [if_neg hj2]
      obtain ⟨d, rfl⟩ : ∃ d, j = i + 8 + 1 + d := ⟨j - (i + 9), by omega⟩
      have z1 : V3 a b i / p3 (i + 8 + 1 + d) = 0 := Nat.div_eq_of_lt (Nat.lt_of_lt_of_le (V3_lt a b i hb) (by unfold p3; exact Nat.pow_le_pow_right (by omega) (by omega)))
      have z2 : V3 a b (i + 1) / p3 (i + 8 + 1 + d) = 0 := Nat.div_eq_of_lt (Nat.lt_of_lt_of_le (V3_lt a b (i + 1) hb) (by unfold p3; exact Nat.pow_le_pow_right (by omega) (by omega)))
      unfold h3
      rw [z1, z2]
theorem V3_zero (a b : Nat) : V3 a b 0 = 0 := by unfold V3 p3; simp [Nat.mod_one]
theorem V3_all (a b : Nat) (ha : a < p3 8) : V3 a b 8 = a * b := by unfold V3; rw [Nat.mod_eq_of_lt ha]
theorem h3_zero (j : Nat) : h3 0 j = 0 := by unfold h3; simp
theorem mul_lt32 {x y : Nat} (hx : x < 4294967296) (hy : y < 4294967296) : x * y ≤ 18446744065119617025 := by
  have := Nat.mul_le_mul (show x ≤ 4294967295 by omega) (show y ≤ 4294967295 by omega)
  omega
theorem mix3_at {V x b i k : Nat} : mix3 V x b i k (i + k) = h3 V (i + k) := by unfold mix3; rw [if_neg (by omega)]
theorem prd3_c {V x b i k c : Nat} {f : Nat → Nat} (hx : x < 4294967296) (hf : f (i + k) = h3 V (i + k)) (h : In3 V x b i k c) : In3 V x b i (k + 1) ((c + f (i + k) + x * h3 b k) / 4294967296) := by
  rw [hf, show c + h3 V (i + k) + x * h3 b k = x * h3 b k + h3 V (i + k) + c by omega]
  exact (in3_step V x b i k c hx h).1
theorem prd3_f {V x b i k c : Nat} {f : Nat → Nat} (hx : x < 4294967296) (hi : i + k < 16) (h : In3 V x b i k c) (hf : ∀ j, j < 16 → f j = mix3 V x b i k j) :
    ∀ j, j < 16 → upn f (i + k) ((c + f (i + k) + x * h3 b k) % 4294967296) j = mix3 V x b i (k + 1) j := by
  intro j hj
  have h1 := hf _ hi
  rw [mix3_at] at h1
  rw [← mix3_step V x b i k c ((c + f (i + k) + x * h3 b k) % 4294967296) hx h (by rw [h1]; exact congrArg (· % 4294967296) (by omega))]
  unfold upn
  split
  · rfl
  · exact hf j hj
theorem prd3_f0 {a b i : Nat} {f : Nat → Nat} (hf : ∀ j, j < 16 → f j = h3 (V3 a b i) j) : ∀ j, j < 16 → f j = mix3 (V3 a b i) (h3 a i) b i 0 j := by
  intro j hj
  rw [hf j hj]
  unfold mix3 T3
  have : b % p3 0 = 0 := by unfold p3; simp [Nat.mod_one]
  rw [this]; simp
theorem prd3_last {a b i c : Nat} {f : Nat → Nat} (hb : b < 2 ^ 256) (h : In3 (V3 a b i) (h3 a i) b i 8 c) (hf : ∀ j, j < 16 → f j = mix3 (V3 a b i) (h3 a i) b i 8 j) :
    ∀ j, j < 16 → upn f (i + 8) c j = h3 (V3 a b (i + 1)) j := by
  intro j hj
  rw [← in3_last a b i c hb h]
  unfold upn
  split
  · rfl
  · exact hf j hj
theorem prd3_0 {a b : Nat} : ∀ j, j < 16 → (fun _ => 0) j = h3 (V3 a b 0) j := fun j _ => by rw [V3_zero, h3_zero]
theorem prd3_fin {a b : Nat} {f : Nat → Nat} (ha : a < 2 ^ 256) (hf : ∀ j, j < 16 → f j = h3 (V3 a b 8) j) : ∀ j, j < 16 → f j = h3 (a * b) j := fun j hj => by rw [hf j hj, V3_all a b ha]
theorem prd3_c' {V x b i k c : Nat} {f : Nat → Nat} (hx : x < 4294967296) (hf : f (i + k) = h3 V (i + k)) (h : In3 V x b i k c) : In3 V x b i (k + 1) ((c + f (i + k) + x * h3 b k) / 2 ^ 32) := prd3_c hx hf h
theorem prd3_f' {V x b i k c : Nat} {f : Nat → Nat} (hx : x < 4294967296) (hi : i + k < 16) (h : In3 V x b i k c) (hf : ∀ j, j < 16 → f j = mix3 V x b i k j) :
    ∀ j, j < 16 → upn f (i + k) ((c + f (i + k) + x * h3 b k) % 2 ^ 32) j = mix3 V x b i (k + 1) j := prd3_f hx hi h hf
theorem h3_high (M n j : Nat) (h : M < p3 n) (hj : n ≤ j) : h3 M j = 0 := by
  unfold h3
  rw [Nat.div_eq_of_lt (Nat.lt_of_lt_of_le h (by unfold p3; exact Nat.pow_le_pow_right (by omega) (by omega)))]
theorem mod_p3 (x i : Nat) : x % p3 (i + 1) = x % p3 i + p3 i * h3 x i := by rw [p3_succ]; exact Nat.mod_mul
def fT (M i : Nat) : Nat := M % 2 ^ 256 % p3 i + M / 2 ^ 256 % p3 i * 977 + (if i = 0 then 0 else M / 2 ^ 256 % p3 (i - 1) * 4294967296)
def tI (M i : Nat) : Nat := (if i < 8 then h3 M i + h3 M (8 + i) * 977 else 0) + (if 1 ≤ i ∧ i < 9 then h3 M (7 + i) else 0)
theorem h3_lo {M i : Nat} (h : i < 8) : h3 (M % 2 ^ 256) i = h3 M i := by
  unfold h3
  rw [show (2 : Nat) ^ 256 = p3 8 from rfl, show 8 = i + 1 + (7 - i) by omega, p3_add, p3_succ, Nat.mul_assoc, Nat.mod_mul_right_div_self, Nat.mod_mul_right_mod]
theorem h3_hi (M i : Nat) : h3 (M / 2 ^ 256) i = h3 M (8 + i) := by
  unfold h3
  rw [show (2 : Nat) ^ 256 = p3 8 from rfl, Nat.div_div_eq_div_mul, ← p3_add]
theorem fT_step {M i : Nat} (hM : M / 2 ^ 256 < 2 ^ 256) : fT M (i + 1) = fT M i + tI M i * p3 i := by
  have hl : M % 2 ^ 256 < p3 8 := Nat.mod_lt _ (Nat.two_pow_pos 256)
  have hh : M / 2 ^ 256 < p3 8 := by
    show M / 2 ^ 256 < 2 ^ 256
    omega
  have e1 : h3 (M % 2 ^ 256) i = if i < 8 then h3 M i else 0 := by
    split
    · exact h3_lo (by assumption)
    · exact h3_high _ 8 _ hl (by omega)
  have e2 : h3 (M / 2 ^ 256) i = if i < 8 then h3 M (8 + i) else 0 := by
    split
    · exact h3_hi M i
    · exact h3_high _ 8 _ hh (by omega)
  have e3 : (if i + 1 = 0 then 0 else M / 2 ^ 256 % p3 (i + 1 - 1) * 4294967296) = (if i = 0 then 0 else M / 2 ^ 256 % p3 (i - 1) * 4294967296) + (if 1 ≤ i ∧ i < 9 then h3 M (7 + i) else 0) * p3 i := by
    rw [if_neg (by omega), Nat.add_sub_cancel]
    cases i with
    | zero => simp [p3, Nat.mod_one]
    | succ i =>
      rw [if_neg (by omega), Nat.add_sub_cancel, mod_p3, p3_succ]
      have e4 : h3 (M / 2 ^ 256) i = if 1 ≤ i + 1 ∧ i + 1 < 9 then h3 M (7 + (i + 1)) else 0 := by
        split
        · rw [h3_hi]; congr 1; omega
        · exact h3_high _ 8 _ hh (by omega)
      rw [e4]
      grind
  unfold fT tI
  rw [e3, mod_p3, mod_p3, e1, e2]
  split <;> grind
theorem fT_zero (M : Nat) : fT M 0 = 0 := by unfold fT p3; simp [Nat.mod_one]
theorem fT_lt {M i : Nat} : fT M i / p3 i < 979 := by
  rw [Nat.div_lt_iff_lt_mul (p3_pos i)]
  have h1 := Nat.mod_lt (M % 2 ^ 256) (p3_pos i)
  have h2 := Nat.mod_lt (M / 2 ^ 256) (p3_pos i)
  have h3 : (if i = 0 then 0 else M / 2 ^ 256 % p3 (i - 1) * 4294967296) < p3 i := by
    split
    · exact p3_pos i
    · have := Nat.mod_lt (M / 2 ^ 256) (p3_pos (i - 1))
      have e : p3 i = p3 (i - 1) * 4294967296 := by rw [← p3_succ]; congr 1; omega
      omega
  unfold fT
  omega
theorem fold_c {M i c S : Nat} (hM : M / 2 ^ 256 < 2 ^ 256) (hc : c = fT M i / p3 i) (hS : S = c + tI M i) : S / 2 ^ 32 = fT M (i + 1) / p3 (i + 1) := by
  rw [fT_step hM, p3_succ, ← Nat.div_div_eq_div_mul, Nat.add_mul_div_right _ _ (p3_pos i), ← hc, ← hS]
theorem fold_f {M i c S : Nat} {f : Nat → Nat} (hM : M / 2 ^ 256 < 2 ^ 256) (hc : c = fT M i / p3 i) (hS : S = c + tI M i) (hf : ∀ j, j < i → f j = h3 (fT M i) j) : ∀ j, j < i + 1 → upn f i (S % 2 ^ 32) j = h3 (fT M (i + 1)) j := by
  intro j hj
  unfold upn
  by_cases h : j = i
  · rw [if_pos h, h]
    show _ = fT M (i + 1) / p3 i % 4294967296
    rw [fT_step hM, Nat.add_mul_div_right _ _ (p3_pos i), ← hc, ← hS]
  · rw [if_neg h, hf j (by omega), fT_step hM, h3_add_mul _ _ _ _ (by omega)]
theorem fT_ten {M E : Nat} (hM : M / 2 ^ 256 < 2 ^ 256) (hE : fT M 10 = E) : E = M % 2 ^ 256 + M / 2 ^ 256 * 4294968273 ∧ E / 2 ^ 256 < 1099511627776 := by
  have hl : M % 2 ^ 256 < 2 ^ 256 := Nat.mod_lt _ (Nat.two_pow_pos 256)
  have hh : M / 2 ^ 256 < 2 ^ 256 := by omega
  have e : E = M % 2 ^ 256 + M / 2 ^ 256 * 977 + M / 2 ^ 256 * 4294967296 := by
    have m9 : p3 8 ≤ p3 9 := by rw [show 9 = 8 + 1 from rfl, p3_add]; exact Nat.le_mul_of_pos_right _ (p3_pos 1)
    have m10 : p3 8 ≤ p3 10 := by rw [show 10 = 8 + 2 from rfl, p3_add]; exact Nat.le_mul_of_pos_right _ (p3_pos 2)
    have hl' : M % 2 ^ 256 < p3 8 := hl
    have hh' : M / 2 ^ 256 < p3 8 := hh
    rw [← hE]
    unfold fT
    rw [if_neg (by decide), Nat.mod_eq_of_lt (a := M % 2 ^ 256) (Nat.lt_of_lt_of_le hl' m10), Nat.mod_eq_of_lt (a := M / 2 ^ 256) (b := p3 10) (Nat.lt_of_lt_of_le hh' m10), Nat.mod_eq_of_lt (a := M / 2 ^ 256) (b := p3 (10 - 1)) (Nat.lt_of_lt_of_le hh' (show p3 8 ≤ p3 (10 - 1) from m9))]
  omega
theorem top_val {E : Nat} (h : E / 2 ^ 256 < 1099511627776) : h3 E 8 + h3 E 9 * 2 ^ 32 % 18446744073709551616 = E / 2 ^ 256 := by
  unfold h3 p3; omega
theorem lim_h3 (E i : Nat) : h3 E (2 * i) + h3 E (2 * i + 1) * 2 ^ 32 % 18446744073709551616 = limN E i := by
  have h1 : p3 (2 * i) = 2 ^ (64 * i) := by unfold p3; congr 1; omega
  have h2 : p3 (2 * i + 1) = 2 ^ (64 * i) * 4294967296 := by rw [p3_succ, h1]
  unfold h3 limN
  rw [h1, h2, ← Nat.div_div_eq_div_mul]
  generalize E / 2 ^ (64 * i) = x
  omega
theorem lim_f {E i : Nat} {f : Nat → Nat} (hf : ∀ j, j < i → f j = limN E j) : ∀ j, j < i + 1 → upn f i (h3 E (2 * i) + h3 E (2 * i + 1) * 2 ^ 32 % 18446744073709551616) j = limN E j := by
  intro j hj
  unfold upn
  by_cases h : j = i
  · rw [if_pos h, h, lim_h3]
  · rw [if_neg h]; exact hf j (by omega)
end Go.Proofs.YtejbajgpiecjcaaGreat

/- Shifts word by word; digits of 32 bits. No program here. -/
namespace Go.Proofs.YtejbajgpiecjcaaGreat
def shf (A nn i j : Nat) : Nat := if j + nn / 64 < i then limN (A / 2 ^ nn) j else 0
theorem rshr_bit {A nn i : Nat} : A / 2 ^ (i + nn) % 2 = A / 2 ^ nn / 2 ^ i % 2 := by rw [Nat.div_div_eq_div_mul, ← Nat.pow_add, Nat.add_comm]
theorem rshr_bit0 {A nn i : Nat} (hA : A < 2 ^ 256) (h : 256 ≤ i + nn) : A / 2 ^ nn / 2 ^ i % 2 = 0 := by
  rw [Nat.div_div_eq_div_mul, ← Nat.pow_add, Nat.div_eq_of_lt (Nat.lt_of_lt_of_le hA (Nat.pow_le_pow_right (by decide) (by omega)))]
theorem rshr_step {B k o b t : Nat} (hB : B < 2 ^ 256) (h1 : 1 ≤ k) (ho : B / 2 ^ k = o) (hb : B / 2 ^ (k - 1) % 2 = b) (ht : (2 * o + b) % 2 ^ 256 = t) : B / 2 ^ (k - 1) = t := by
  obtain ⟨i, rfl⟩ : ∃ i, k = i + 1 := ⟨k - 1, by omega⟩
  rw [Nat.add_sub_cancel] at *
  have e : B / 2 ^ i = 2 * o + b := by rw [← hb, ← ho, Nat.pow_succ, ← Nat.div_div_eq_div_mul]; omega
  rw [← ht, ← e, Nat.mod_eq_of_lt (Nat.lt_of_le_of_lt (Nat.div_le_self _ _) hB)]
theorem div_lt256 {A e : Nat} (h : A < 2 ^ 256) : A / 2 ^ e < 2 ^ 256 := Nat.lt_of_le_of_lt (Nat.div_le_self _ _) h
theorem h3_lim (a i : Nat) : limN a (i / 2) / 2 ^ (32 * (i % 2)) % 2 ^ 32 = h3 a i := by
  unfold limN h3 p3
  have e : a / 2 ^ (32 * i) = a / 2 ^ (64 * (i / 2)) / 2 ^ (32 * (i % 2)) := by rw [Nat.div_div_eq_div_mul, ← Nat.pow_add]; congr 2; omega
  rw [e]
  generalize a / 2 ^ (64 * (i / 2)) = x
  rcases Nat.mod_two_eq_zero_or_one i with h | h
  · rw [h]; simp
  · rw [h]; omega
theorem h3_step {a k : Nat} {f : Nat → Nat} (hf : ∀ j, j < k → f j = h3 a j) : ∀ j, j < k + 1 → upn f k (limN a (k / 2) / 2 ^ (32 * (k % 2)) % 2 ^ 32) j = h3 a j := by
  intro j hj
  unfold upn
  by_cases h : j = k
  · rw [if_pos h, h, h3_lim]
  · rw [if_neg h]; exact hf j (by omega)
end Go.Proofs.YtejbajgpiecjcaaGreat

/- The prime of the field; sums, products modulo it, by the ways the program takes. No program here. -/
namespace Go.Proofs.YtejbajgpiecjcaaGreat
def Pf : Nat := 115792089237316195423570985008687907853269984665640564039457584007908834671663
def Pov : Nat := 4294968273
theorem Pf_lt : Pf < 2 ^ 256 := by decide
theorem Pf_big : 2 ^ 255 < Pf := by decide
theorem Pf_pos : 0 < Pf := by decide
theorem Pf_eq : Pf + Pov = 2 ^ 256 := by decide
theorem modP_lt (a : Nat) : a % Pf < 2 ^ 256 := Nat.lt_trans (Nat.mod_lt _ Pf_pos) Pf_lt
theorem gred_no {N a c : Nat} (hc : bor a N = c) (h : ¬ c = 0) : a = a % N := by
  unfold bor at hc
  split at hc
  · exact (Nat.mod_eq_of_lt (by assumption)).symm
  · omega
theorem gred_yes {N a c d : Nat} (h1 : 2 ^ 255 < N) (h2 : N < 2 ^ 256) (ha : a < 2 ^ 256) (hd : (a + 2 ^ 256 - N) % 2 ^ 256 = d) (hc : bor a N = c) (h : c = 0) : d = a % N := by
  unfold bor at hc
  split at hc
  · omega
  · rw [Nat.mod_eq_sub_mod (by omega), Nat.mod_eq_of_lt (a := a - N) (by omega), ← hd]
    rw [show a + 2 ^ 256 - N = (a - N) + 2 ^ 256 by omega, Nat.add_mod_right, Nat.mod_eq_of_lt (by omega)]
theorem lift_no {a c : Nat} (h : c = 0) : (a + 2 ^ 256 * c) % Pf = a % Pf := by rw [h]; rfl
theorem lift_yes {a c s : Nat} (hc : c = 0 ∨ c = 1 ∧ a + Pov < 2 ^ 256) (h : ¬ c = 0) (hs : (a + Pov) % 2 ^ 256 = s) : (a + 2 ^ 256 * c) % Pf = s % Pf := by
  obtain ⟨h1, h2⟩ := hc.resolve_left h
  rw [h1, ← hs, Nat.mod_eq_of_lt h2, Nat.mul_one, ← Pf_eq, ← Nat.add_assoc, Nat.add_right_comm, Nat.add_mod_right]
theorem fadd_pre {a b s c : Nat} (hs : (a % Pf + b % Pf) % 2 ^ 256 = s) (hc : (a % Pf + b % Pf) / 2 ^ 256 = c) : c = 0 ∨ c = 1 ∧ s + Pov < 2 ^ 256 := by
  have h1 := Nat.mod_lt a Pf_pos
  have h2 := Nat.mod_lt b Pf_pos
  have h3 := Pf_eq
  have h4 := Pf_lt
  omega
theorem fadd_fin {a b s c : Nat} (hs : (a % Pf + b % Pf) % 2 ^ 256 = s) (hc : (a % Pf + b % Pf) / 2 ^ 256 = c) : (s + 2 ^ 256 * c) % Pf = (a + b) % Pf := by
  rw [← hs, ← hc, Nat.mod_add_div, ← Nat.add_mod]
def fsub (a b : Nat) : Nat := (a % Pf + Pf - b % Pf) % Pf
theorem fsub_lt (a b : Nat) : fsub a b < 2 ^ 256 := modP_lt _
theorem fsub_no {a b z c : Nat} (hz : (a % Pf + 2 ^ 256 - b % Pf) % 2 ^ 256 = z) (hb : bor (a % Pf) (b % Pf) = c) (h : ¬ c = 1) : z = fsub a b :=
  less_mod (Nat.mod_lt _ Pf_pos) (Nat.mod_lt _ Pf_pos) Pf_lt hz hb h
theorem fsub_yes {a b z z2 c : Nat} (hz : (a % Pf + 2 ^ 256 - b % Pf) % 2 ^ 256 = z) (hb : bor (a % Pf) (b % Pf) = c) (h : c = 1) (hz2 : (z + Pf) % 2 ^ 256 = z2) : z2 = fsub a b :=
  less_mod2 (Nat.mod_lt _ Pf_pos) (Nat.mod_lt _ Pf_pos) Pf_lt hz hb h hz2
theorem bor01 {a b c : Nat} (h : bor a b = c) : c ≠ 0 ↔ c = 1 := by rw [← h]; unfold bor; split <;> simp
def scC (a k : Nat) : Nat := a % 2 ^ (64 * k) * Pov / 2 ^ (64 * k)
theorem scC_zero (a : Nat) : scC a 0 = 0 := by unfold scC; simp [Nat.mod_one]
theorem sc_val (a k : Nat) : a % 2 ^ (64 * (k + 1)) * Pov / 2 ^ (64 * k) = limN a k * Pov + scC a k := by
  unfold scC limN
  have hp := Nat.two_pow_pos (64 * k)
  rw [show 64 * (k + 1) = 64 * k + 64 by omega, Nat.pow_add, Nat.mod_mul]
  generalize 2 ^ (64 * k) = A at *
  rw [Nat.add_mul, Nat.mul_assoc, Nat.add_mul_div_left _ _ hp]
  omega
theorem scC_step {a k hi lo s c v : Nat} (hh : limN a k * Pov / 18446744073709551616 = hi) (hl : limN a k * Pov % 18446744073709551616 = lo) (hv : v = scC a k) (hs : (lo + v) % 18446744073709551616 = s) (hc : (lo + v) / 18446744073709551616 = c) : hi + c = scC a (k + 1) := by
  have e : scC a (k + 1) = (limN a k * Pov + v) / 2 ^ 64 := by
    rw [hv, ← sc_val]
    unfold scC
    rw [show 64 * (k + 1) = 64 * k + 64 by omega, Nat.pow_add, Nat.div_div_eq_div_mul]
  rw [e]; omega
theorem scC_dig {a k lo s v : Nat} (hl : limN a k * Pov % 18446744073709551616 = lo) (hv : v = scC a k) (hs : (lo + v) % 18446744073709551616 = s) : s = limN (a * Pov) k := by
  have e : a * Pov = a % 2 ^ (64 * (k + 1)) * Pov + 2 ^ (64 * k) * (2 ^ 64 * (a / 2 ^ (64 * (k + 1)) * Pov)) := by
    have := Nat.mod_add_div a (2 ^ (64 * (k + 1)))
    rw [← Nat.mul_assoc, ← Nat.pow_add, show 64 * k + 64 = 64 * (k + 1) by omega, ← Nat.mul_assoc, ← Nat.add_mul, this]
  have e2 : limN (a * Pov) k = (limN a k * Pov + v) % 2 ^ 64 := by
    rw [hv, ← sc_val]
    show a * Pov / 2 ^ (64 * k) % 2 ^ 64 = _
    rw [e, Nat.add_mul_div_left _ _ (Nat.two_pow_pos _), Nat.add_mul_mod_self_left]
  rw [e2]; omega
theorem scC_lt (a k : Nat) : scC a k < 4294968273 := by
  unfold scC
  rw [Nat.div_lt_iff_lt_mul (Nat.two_pow_pos _), Nat.mul_comm]
  exact Nat.mul_lt_mul_of_pos_left (Nat.mod_lt _ (Nat.two_pow_pos _)) (by decide)
theorem sc_f {a k s : Nat} {f : Nat → Nat} (hk : k < 4) (hs : s = limN (a * Pov) k) (hf : ∀ j, j < k → f j = limN (a * Pov) j) : ∀ j, j < k + 1 → upn f k s j = limN (a * Pov) j := by
  intro j hj
  unfold upn
  by_cases h : j = k
  · rw [if_pos h, h, hs]
  · rw [if_neg h]; exact hf j (by omega)
theorem scC_fin {a q : Nat} (ha : a < 2 ^ 256) (hq : a * Pov / 2 ^ 256 = q) : scC a 4 = q := by unfold scC; rw [Nat.mod_eq_of_lt (by simpa using ha), ← hq]
theorem fold_top {h t : Nat} (hh : h < 2 ^ 256) (ht : h * Pov / 2 ^ 256 = t) : t < 4294968273 := by
  rw [← ht, Nat.div_lt_iff_lt_mul (Nat.two_pow_pos _), Nat.mul_comm]
  exact Nat.mul_lt_mul_of_pos_left hh (by decide)
theorem fmul_pre {lo f s c t r s2 c2 : Nat} (hlo : lo < 2 ^ 256) (hf : f < 2 ^ 256) (hc : (lo + f) / 2 ^ 256 = c) (ht : t < 4294968273) (hr : (t + c) * Pov % 2 ^ 256 = r) (hs : s < 2 ^ 256) (hs2 : (s + r) % 2 ^ 256 = s2) (hc2 : (s + r) / 2 ^ 256 = c2) : c2 = 0 ∨ c2 = 1 ∧ s2 + Pov < 2 ^ 256 := by
  have h1 : (t + c) * Pov ≤ 4294968274 * 4294968273 := Nat.mul_le_mul (by omega) (by decide)
  have h2 : Pov = 4294968273 := rfl
  omega
theorem fmul_fin {a b lo hi f t s c r s2 c2 : Nat} (hl : a * b % 2 ^ 256 = lo) (hh : a * b / 2 ^ 256 = hi) (llo : lo < 2 ^ 256) (lf : f < 2 ^ 256) (lt : t < 4294968273) (hf : hi * Pov % 2 ^ 256 = f) (ht : hi * Pov / 2 ^ 256 = t) (hs : (lo + f) % 2 ^ 256 = s) (hc : (lo + f) / 2 ^ 256 = c)
    (hr : (t + c) * Pov % 2 ^ 256 = r) (hs2 : (s + r) % 2 ^ 256 = s2) (hc2 : (s + r) / 2 ^ 256 = c2) : (s2 + 2 ^ 256 * c2) % Pf = a * b % Pf := by
  have h1 : (t + c) * Pov ≤ 4294968274 * 4294968273 := Nat.mul_le_mul (by omega) (by decide)
  rw [Nat.mod_eq_of_lt (a := (t + c) * Pov) (by omega)] at hr
  have k : ∀ x y : Nat, (x + 2 ^ 256 * y) % Pf = (x + y * Pov) % Pf := by
    intro x y
    rw [← Pf_eq, Nat.add_mul, ← Nat.add_assoc, Nat.add_right_comm, Nat.mul_comm Pov y, Nat.add_mul_mod_self_left]
  have e1 : s2 + 2 ^ 256 * c2 = s + r := by rw [← hs2, ← hc2, Nat.mod_add_div]
  have e2 : lo + hi * Pov = s + 2 ^ 256 * (t + c) := by
    have d1 := Nat.mod_add_div (hi * Pov) (2 ^ 256)
    have d2 := Nat.mod_add_div (lo + f) (2 ^ 256)
    rw [hf, ht] at d1
    rw [hs, hc] at d2
    rw [Nat.mul_add]
    omega
  rw [e1, ← hr, ← k, ← e2, ← k, ← hl, ← hh, Nat.mod_add_div]
def frt (a : Nat) : Nat := a ^ ((Pf + 1) / 4) % Pf
def frB (a : Nat) : Bool := decide (frt a * frt a % Pf = a % Pf)
def frV (a : Nat) : Nat := if frt a * frt a % Pf = a % Pf then (if frt a % 2 = 1 then fsub 0 (frt a) else frt a) else 0
theorem frV_lt (a : Nat) : frV a < 2 ^ 256 := by
  unfold frV
  repeat' split
  · exact fsub_lt _ _
  · exact modP_lt _
  · decide
theorem frV_no {a r x y : Nat} (hr : frt a = r) (hx : r * r % Pf = x) (hy : a % Pf = y) (h : x ≠ y) : frV a = 0 ∧ frB a = false := by
  unfold frV frB
  rw [hr, hx, hy, if_neg h, decide_eq_false h]
  exact ⟨rfl, rfl⟩
theorem frV_odd {a r x y n : Nat} (hr : frt a = r) (hx : r * r % Pf = x) (hy : a % Pf = y) (h : ¬ x ≠ y) (ho : r % 2 = 1) (hn : fsub 0 r = n) : frV a = n ∧ frB a = true := by
  unfold frV frB
  have h := Classical.not_not.1 h
  rw [hr, hx, hy, if_pos h, if_pos ho, hn, decide_eq_true h]
  exact ⟨rfl, rfl⟩
theorem frV_even {a r x y : Nat} (hr : frt a = r) (hx : r * r % Pf = x) (hy : a % Pf = y) (h : ¬ x ≠ y) (ho : ¬ r % 2 = 1) : frV a = r ∧ frB a = true := by
  unfold frV frB
  have h := Classical.not_not.1 h
  rw [hr, hx, hy, if_pos h, if_neg ho, decide_eq_true h]
  exact ⟨rfl, rfl⟩
theorem pow_hi {a n k o q b : Nat} (h1 : 1 ≤ k) (ho : a ^ (n / 2 ^ k) % Pf = o) (hq : o * o % Pf = q) (hb : n / 2 ^ (k - 1) % 2 = b) : a ^ (n / 2 ^ (k - 1)) % Pf = q * a ^ b % Pf := by
  obtain ⟨i, rfl⟩ : ∃ i, k = i + 1 := ⟨k - 1, by omega⟩
  rw [Nat.add_sub_cancel] at *
  have e : n / 2 ^ i = 2 * (n / 2 ^ (i + 1)) + b := by rw [← hb, Nat.pow_succ, ← Nat.div_div_eq_div_mul]; omega
  rw [e, Nat.pow_add, Nat.mul_comm 2, Nat.pow_mul, Nat.pow_two, Nat.mul_mod, Nat.mul_mod (a ^ _) (a ^ _), ho, hq, Nat.mul_mod_mod]
theorem pow_hi1 {a n k o q b r : Nat} (h1 : 1 ≤ k) (ho : a ^ (n / 2 ^ k) % Pf = o) (hq : o * o % Pf = q) (hb : n / 2 ^ (k - 1) % 2 = b) (hb1 : b = 1) (hr : q * a % Pf = r) : a ^ (n / 2 ^ (k - 1)) % Pf = r := by
  rw [pow_hi h1 ho hq hb, hb1, Nat.pow_one, hr]
theorem pow_hi0 {a n k o q b : Nat} (h1 : 1 ≤ k) (ho : a ^ (n / 2 ^ k) % Pf = o) (hq : o * o % Pf = q) (hb : n / 2 ^ (k - 1) % 2 = b) (hb1 : ¬ b = 1) : a ^ (n / 2 ^ (k - 1)) % Pf = q := by
  have : b = 0 := by omega
  rw [pow_hi h1 ho hq hb, this, Nat.pow_zero, Nat.mul_one, ← hq, Nat.mod_mod]
theorem pow_hi_start {a n : Nat} (hn : n < 2 ^ 256) : a ^ (n / 2 ^ 256) % Pf = 1 := by rw [Nat.div_eq_of_lt hn, Nat.pow_zero]; decide
theorem tw12_lt {t : Nat} (h : t < 1099511627776) : t * Pov < 2 ^ 256 := by unfold Pov; omega
theorem tw12_e1 (q r c u : Nat) (hq : q < 256) (hu : u < 9223372036854775808) (d2 : r < 4294967296) (hc : c = if (u + r * 4294967296) % 18446744073709551616 < u then 1 else 0) : (18446744073709551616 * q + (u + r * 4294967296)) / 18446744073709551616 % 18446744073709551616 = q + c := by
  rw [Nat.mul_add_div (by decide), hc]
  split <;> omega
theorem tw12_e2 (t c : Nat) (h : t < 1099511627776) (hc : c = if (t * 977 + t * 2 ^ 32 % 18446744073709551616) % 18446744073709551616 < t * 977 then 1 else 0) : t / 2 ^ 32 + c = t * 4294968273 / 18446744073709551616 % 18446744073709551616 := by
  obtain ⟨q, hq⟩ : ∃ q, t / 4294967296 = q := ⟨_, rfl⟩
  obtain ⟨r, hr⟩ : ∃ r, t % 4294967296 = r := ⟨_, rfl⟩
  have e : t * 4294968273 = 18446744073709551616 * q + (t * 977 + r * 4294967296) := by omega
  have d3 : t * 2 ^ 32 % 18446744073709551616 = r * 4294967296 := by omega
  rw [d3] at hc
  rw [e, tw12_e1 q r c (t * 977) (by omega) (by omega) (by omega) hc, ← hq]
theorem tw12_limbs {t c : Nat} (h : t < 1099511627776) (hc : c = if (t * 977 + t * 2 ^ 32 % 18446744073709551616) % 18446744073709551616 < t * 977 then 1 else 0) :
    [Value.int .u64 (((t * 977 + t * 2 ^ 32 % 18446744073709551616) % 18446744073709551616 : Nat) : Int), .int .u64 ((t / 2 ^ 32 + c : Nat) : Int), .int .u64 0, .int .u64 0] = Wl (t * Pov) := by
  unfold Wl lim
  have e0 : (t * 977 + t * 2 ^ 32 % 18446744073709551616) % 18446744073709551616 = t * Pov / 2 ^ (64 * 0) % 2 ^ 64 := by unfold Pov; omega
  have e1 : t / 2 ^ 32 + c = t * Pov / 2 ^ (64 * 1) % 2 ^ 64 := tw12_e2 t c h hc
  have e2 : 0 = t * Pov / 2 ^ (64 * 2) % 2 ^ 64 := by
    have hb : t * Pov < 2 ^ 128 := by unfold Pov; omega
    rw [Nat.div_eq_of_lt (Nat.lt_of_lt_of_le hb (Nat.pow_le_pow_right (by decide) (by decide)))]
  have e3 : 0 = t * Pov / 2 ^ (64 * 3) % 2 ^ 64 := by
    have hb : t * Pov < 2 ^ 128 := by unfold Pov; omega
    rw [Nat.div_eq_of_lt (Nat.lt_of_lt_of_le hb (Nat.pow_le_pow_right (by decide) (by decide)))]
  rw [← e0, ← e1, ← e2, ← e3]
  rfl
theorem fold_pmod {M E e0 : Nat} (hE : E = M % 2 ^ 256 + M / 2 ^ 256 * 4294968273) (he : E % 2 ^ 256 = e0) : (e0 + E / 2 ^ 256 * Pov) % Pf = M % Pf := by
  have k : ∀ x y : Nat, (x + 2 ^ 256 * y) % Pf = (x + y * Pov) % Pf := by
    intro x y
    rw [← Pf_eq, Nat.add_mul, ← Nat.add_assoc, Nat.add_right_comm, Nat.mul_comm Pov y, Nat.add_mul_mod_self_left]
  rw [← k, ← he, Nat.mod_add_div, hE]
  show (M % 2 ^ 256 + M / 2 ^ 256 * Pov) % Pf = _
  rw [← k, Nat.mod_add_div]
theorem fold_no {e0 x s c : Nat} (hs : (e0 + x) % 2 ^ 256 = s) (hc : (e0 + x) / 2 ^ 256 = c) (hx : x < 2 ^ 128) (he : e0 < 2 ^ 256) (h : ¬ c = 1) : s = e0 + x := by omega
theorem fold_yes {e0 x s c s2 : Nat} (hs : (e0 + x) % 2 ^ 256 = s) (hc : (e0 + x) / 2 ^ 256 = c) (hx : x < 2 ^ 128) (he : e0 < 2 ^ 256) (h : c = 1) (hs2 : (s + Pov) % 2 ^ 256 = s2) : s2 % Pf = (e0 + x) % Pf := by
  have e : s2 + Pf = e0 + x := by
    have := Pf_eq
    unfold Pov at *
    omega
  rw [← e, Nat.add_mod_right]
theorem tw12_lt128 {t : Nat} (h : t < 1099511627776) : t * Pov < 2 ^ 128 := by unfold Pov; omega
theorem rfadd_yes {a b s c t : Nat} (hs : (a % Pf + b % Pf) % 2 ^ 256 = s) (hc : (a % Pf + b % Pf) / 2 ^ 256 = c) (h : c = 1) (ht : (s + Pov) % 2 ^ 256 = t) : t % Pf = (a + b) % Pf := by
  have h1 := fadd_pre hs hc
  rw [← lift_yes h1 (by omega) ht, fadd_fin hs hc]
theorem rfadd_no {a b s c : Nat} (hs : (a % Pf + b % Pf) % 2 ^ 256 = s) (hc : (a % Pf + b % Pf) / 2 ^ 256 = c) (h : ¬ c = 1) : s % Pf = (a + b) % Pf := by
  have h1 := fadd_pre hs hc
  rw [← lift_no (a := s) (c := c) (by omega), fadd_fin hs hc]
end Go.Proofs.YtejbajgpiecjcaaGreat
