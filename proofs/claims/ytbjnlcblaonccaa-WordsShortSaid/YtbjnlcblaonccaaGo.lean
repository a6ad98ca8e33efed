/- What joins the walks: the ways out of code, results, loops, addresses. -/
import Derived.Test.YtbjnlcblaonccaaReg
namespace Go.Proofs.Ytbjnlcblaonccaa
open Go.RowKit

section
variable {P : Program} {Q : Exit → Act → World → Prop} {K : Act → World → Prop} {a : Act} {w : World} {o : Oper} {n : Nat} {w0 : Bs} {fs : List Sl} {bs : List Bl}
theorem then_n (h : K a w) : Exit.then K Q .normal a w := h
theorem then_e {id : Nat} (h : Q (.exit id) a w) : Exit.then K Q (.exit id) a w := h
theorem then_r (h : Q .ret a w) : Exit.then K Q .ret a w := h
theorem blk_n {id : Nat} (h : Q .normal a w) : Exit.inBlock id Q .normal a w := h
theorem blk_e {id : Nat} (h : Q .normal a w) : Exit.inBlock id Q (.exit id) a w := by simpa [Exit.inBlock] using h
theorem blk_x {id id' : Nat} (hne : id' ≠ id) (h : Q (.exit id') a w) : Exit.inBlock id Q (.exit id') a w := by simpa [Exit.inBlock, hne] using h
theorem blk_r {id : Nat} (h : Q .ret a w) : Exit.inBlock id Q .ret a w := h

def subl (fs : List Sl) : List Sl → Prop
  | [] => True
  | s :: l => lk fs s.1 = some s.2.2 ∧ subl fs l
theorem subl_lk : ∀ {fs' : List Sl}, subl fs fs' → ∀ t v, lk fs' t = some v → lk fs t = some v
  | [], _, _, _, h => by simp [lk] at h
  | s :: l, h, t, v, e => by
    by_cases hs : s.1 = t
    · rw [lk_cons_eq hs] at e
      cases hb : s.2.1
      · rw [hb] at e; exact subl_lk h.2 t v (by simpa using e)
      · rw [hb] at e
        rw [← hs, h.1]
        simpa using e
    · rw [lk_cons_ne hs] at e; exact subl_lk h.2 t v e
theorem St.re {fs' : List Sl} (hs : St n w0 fs bs a w) (h : subl fs fs') : St n w0 fs' bs a w :=
  ⟨hs.size, hs.defers, fun t v e => hs.slots t v (subl_lk h t v e), hs.blks, hs.apart, hs.below, hs.frz, hs.fz⟩
theorem St.takeb (hs : St n w0 fs bs a w) (k : Nat) : St n w0 fs (bs.take k) a w := by
  have key : ∀ (i : Nat) (e : Bl), (bs.take k)[i]? = some e → bs[i]? = some e := fun i e h => by
    rw [List.getElem?_take] at h
    split at h
    · exact h
    · cases h
  exact ⟨hs.size, hs.defers, hs.slots, fun i e h => hs.blks i e (key i e h), fun i j e e' hij h h' => hs.apart i j e e' hij (key i e h) (key j e' h'), hs.below, fun p hp => ⟨(hs.frz p hp).1, fun i e h h1 => (hs.frz p hp).2 i e (key i e h) h1⟩, fun i e h h1 => Fz.ok_mono (fun _ _ h => h) (fun g hg _ => ⟨⟨hg.1, fun j b hb hb1 => hg.2.1 j b (key j b hb) hb1, hg.2.2⟩, rfl⟩) (hs.fz i e h h1)⟩
theorem St.reb {bs' : List Bl} (hs : St n w0 fs bs a w) (h : bs = bs') : St n w0 fs bs' a w := h ▸ hs
theorem St.setb (hs : St n w0 fs bs a w) (k : Nat) {b : Bool} {g : Nat} {T : TypeId} {cs cs' : List Value} (h : bs[k]? = some (b, g, T, cs)) (hc : cs = cs') : St n w0 fs (bs.set k (b, g, T, cs')) a w := by
  subst hc
  have : bs.set k (b, g, T, cs) = bs := by
    apply List.ext_getElem?
    intro i
    rw [List.getElem?_set]
    split
    · rename_i hk
      subst hk
      rw [h, if_pos (List.getElem?_eq_some_iff.1 h).1]
    · rfl
  rw [this]
  exact hs
theorem St.evb (hs : St n w0 fs bs a w) {x : Operand} {b c : Bool} (h : Go.Proofs.Ytbjnlcblaonccaa.ev fs x = some (.bool b)) (hb : b = c) : a.eval x = .bool c := by rw [hs.ev h, hb]

def rvRun (tmps : Array Value) (r : ResultVar) : Sem Value :=
  match r with
  | .tmp t => pure (tmps.getD t undef)
  | .cell a t => do loadVar t (← asAddr (tmps.getD a undef))
theorem results_rv (fn : Func) (tmps : Array Value) : results fn tmps = (do
    let vs ← fn.results.mapM (rvRun tmps)
    pure (if h : vs.size = 1 then vs[0] else .tuple vs)) := rfl
theorem rv_t (hs : St n w0 fs bs a w) {t : Nat} {v : Value} (h : lk fs t = some v) : (rvRun a.tmps (.tmp t)).run P w = .ok v w := by
  simp [rvRun, hs.slots t v h]
theorem rv_c (hs : St n w0 fs bs a w) (k : Nat) {p T : Nat} {g i : Nat} {U : TypeId} {cs : List Value} {ag : Bool} {z : Nat} {v : Value} (h : lk fs p = some (.pointer (some ⟨g, i, none⟩))) (hb : bs[k]? = some (true, g, U, cs))
    (hu : ∀ w, (isAgg T).run P w = .ok ag w) (hz : ∀ w, (sizeOf T).run P w = .ok z w) (hl : ldv ag z cs i = some v) : (rvRun a.tmps (.cell p T)).run P w = .ok v w := by
  simp [rvRun, hs.slots p _ h, asAddr, Sem.run_bind, Result.andThen, run_ldv (hs.blk hb) hu hz hl]
theorem res1 {fn : Func} {r : ResultVar} {v : Value} (h : fn.results = #[r]) (h1 : (rvRun a.tmps r).run P w = .ok v w) : (results fn a.tmps).run P w = .ok v w := by
  rw [results_rv, h, show (#[r] : Array ResultVar) = [r].toArray from rfl, List.mapM_toArray]
  simp only [List.mapM_cons, List.mapM_nil, map_eq_pure_bind, bind_assoc, pure_bind, Sem.run_bind, h1, Result.andThen_ok, Sem.run_pure]
  rfl
theorem res2 {fn : Func} {r r' : ResultVar} {v v' : Value} (h : fn.results = #[r, r']) (h1 : (rvRun a.tmps r).run P w = .ok v w) (h2 : (rvRun a.tmps r').run P w = .ok v' w) : (results fn a.tmps).run P w = .ok (.tuple #[v, v']) w := by
  rw [results_rv, h, show (#[r, r'] : Array ResultVar) = [r, r'].toArray from rfl, List.mapM_toArray]
  simp only [List.mapM_cons, List.mapM_nil, map_eq_pure_bind, bind_assoc, pure_bind, Sem.run_bind, h1, h2, Result.andThen_ok, Sem.run_pure]
  rfl
theorem res3 {fn : Func} {r r' r'' : ResultVar} {v v' v'' : Value} (h : fn.results = #[r, r', r'']) (h1 : (rvRun a.tmps r).run P w = .ok v w) (h2 : (rvRun a.tmps r').run P w = .ok v' w) (h3 : (rvRun a.tmps r'').run P w = .ok v'' w) :
    (results fn a.tmps).run P w = .ok (.tuple #[v, v', v'']) w := by
  rw [results_rv, h, show (#[r, r', r''] : Array ResultVar) = [r, r', r''].toArray from rfl, List.mapM_toArray]
  simp only [List.mapM_cons, List.mapM_nil, map_eq_pure_bind, bind_assoc, pure_bind, Sem.run_bind, h1, h2, h3, Result.andThen_ok, Sem.run_pure]
  rfl

theorem least {p : Nat → Prop} (h : ∃ m, p m) : ∃ m, p m ∧ ∀ k, p k → m ≤ k := by
  obtain ⟨m, hm⟩ := h
  induction m using Nat.strongRecOn with
  | _ m ih =>
    by_cases hk : ∃ k, k < m ∧ p k
    · obtain ⟨k, hk, hp⟩ := hk; exact ih k hk hp
    · exact ⟨m, hm, fun k hp => Nat.le_of_not_lt fun hlt => hk ⟨k, hlt, hp⟩⟩
/-- a loop whose measure goes with the relation -/
theorem wp_loop_m {c : Code} (I : Nat → Act → World → Prop) (h0 : ∃ m, I m a w) (h : ∀ m a w, I m a w → c.wp P (Exit.then (fun a' w' => ∃ m', I m' a' w' ∧ m' < m) Q) a w) : (Code.loop c).wp P Q a w := by
  classical
  refine wp_loop (fun a w => ∃ m, I m a w) (fun a w => if h : ∃ m, I m a w then Classical.choose (least h) else 0) h0 fun a w hI => ?_
  have hm := Classical.choose_spec (least hI)
  refine Code.wp_mono ?_ (h _ a w hm.1)
  intro e a' w' hq
  cases e with
  | normal =>
    obtain ⟨m', hI', hlt⟩ := hq
    have hex : ∃ m, I m a' w' := ⟨m', hI'⟩
    refine ⟨hex, ?_⟩
    rw [dif_pos hex, dif_pos hI]
    exact Nat.lt_of_le_of_lt ((Classical.choose_spec (least hex)).2 m' hI') hlt
  | exit id => exact hq
  | goto l => exact hq
  | ret => exact hq
  | panic ch => exact hq
  | outgrown => exact hq

theorem op_pickT (hs : St n w0 fs bs a w) (m : Option Nat) {c x y : Operand} {v : Value} {d : Nat} (ho : o.op = .pick c x y) (hd : o.dst = some d) (hc : ev fs c = some (.bool true)) (hx : ev fs x = some v) (hok : okf m fs d n = true)
    (h : ∀ a', St n w0 (putf m fs d v) bs a' w → K a' w) : o.wp P a w K Q :=
  op_val hs m hd hok (by unfold execOp; rw [ho]; simp [hs.ev hc, hs.ev hx, asBool, Sem.run_bind, Result.andThen]) h
theorem op_pickF (hs : St n w0 fs bs a w) (m : Option Nat) {c x y : Operand} {v : Value} {d : Nat} (ho : o.op = .pick c x y) (hd : o.dst = some d) (hc : ev fs c = some (.bool false)) (hx : ev fs y = some v) (hok : okf m fs d n = true)
    (h : ∀ a', St n w0 (putf m fs d v) bs a' w → K a' w) : o.wp P a w K Q :=
  op_val hs m hd hok (by unfold execOp; rw [ho]; simp [hs.ev hc, hs.ev hx, asBool, Sem.run_bind, Result.andThen]) h
/-- addresses -/
theorem op_fieldA (hs : St n w0 fs bs a w) (m : Option Nat) {T : TypeId} {x : Operand} {i g j z : Nat} {fl : Field} {fds : Array Field} {d : Nat} (ho : o.op = .fieldAddr T x i) (hd : o.dst = some d) (hx : ev fs x = some (.pointer (some ⟨g, j, none⟩)))
    (hu : P.underlying T = some (.struct fds)) (hf : fds[i]? = some fl) (hz : ∀ w, (sizeOf fl.type).run P w = .ok z w) (hz0 : z ≠ 0) (hok : okf m fs d n = true)
    (h : ∀ a', St n w0 (putf m fs d (.pointer (some ⟨g, j + fl.offset, none⟩))) bs a' w → K a' w) : o.wp P a w K Q :=
  op_val hs m hd hok (by
    unfold execOp
    rw [ho]
    simp [hs.ev hx, Instr.fieldAt, Sem.run_bind, run_underlying hu, Result.andThen, hf, Instr.sureAddr, fieldPlace, hz, hz0, Addr.add_mid]) h
theorem op_idxA (hs : St n w0 fs bs a w) (m : Option Nat) {T E : TypeId} {x y : Operand} {g i z N : Nat} {k : IntKind} {j : Nat} {d : Nat} (ho : o.op = .indexAddr T x y) (hd : o.dst = some d) (hx : ev fs x = some (.pointer (some ⟨g, i, none⟩))) (hy : ev fs y = some (.int k (j : Int)))
    (hu : P.underlying T = some (.array N E)) (hz : ∀ w, (sizeOf E).run P w = .ok z w) (hj : j < N) {off : Nat} (hoff : i + j * z = off) (hok : okf m fs d n = true)
    (h : ∀ a', St n w0 (putf m fs d (.pointer (some ⟨g, off, none⟩))) bs a' w → K a' w) : o.wp P a w K Q :=
  op_val hs m hd hok (by
    subst hoff
    unfold execOp
    rw [ho]
    have h1 : (0 : Int) ≤ (j : Int) ∧ (j : Int) < (N : Int) := ⟨by omega, by omega⟩
    simp [hs.ev hx, hs.ev hy, Instr.indexAt, asIntOf, Sem.run_bind, run_underlying hu, Result.andThen, Instr.sureAddr, hz, h1, hj, Addr.add_mid]) h
end

end Go.Proofs.Ytbjnlcblaonccaa
