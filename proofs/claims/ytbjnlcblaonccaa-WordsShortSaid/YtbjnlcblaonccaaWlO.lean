/- Rows of words: their fields; what else the laws of words want. -/
import Derived.Test.YtbjnlcblaonccaaApp
import Derived.Test.YtbjnlcblaonccaaWlP
import Derived.Laws.Small
namespace Go.Proofs.Ytbjnlcblaonccaa
open Go.RowKit
section
variable {P : Program} {Q : Exit → Act → World → Prop} {K : Act → World → Prop} {a : Act} {w : World} {o : Oper} {n : Nat} {w0 : Bs} {fs : List Sl} {bs : List Bl}
theorem op_fieldC (hs : St n w0 fs bs a w) (m : Option Nat) (k : Nat) {T : TypeId} {x : Operand} {v : Value} {i off off' z N : Nat} {cs : List Value} {fl : Field} {fds : Array Field} {d : Nat} (ho : o.op = .fieldAddr T x i) (hd : o.dst = some d) (hx : ev fs x = some (vidx v off))
    (hk : rowAt w0.S k = some (v, N, cs)) (hlt : off < cs.length) (hu : P.underlying T = some (.struct fds)) (hf : fds[i]? = some fl) (hz : ∀ w, (sizeOf fl.type).run P w = .ok z w) (hz0 : z ≠ 0) (hoff : off + fl.offset = off') (hok : okf m fs d n = true)
    (h : ∀ a', St n w0 (putf m fs d (vidx v off')) bs a' w → K a' w) : o.wp P a w K Q := by
  obtain ⟨ad, c, rfl, _, _, _, hc⟩ := hs.row hk
  obtain ⟨g, off0, rfl, _, _⟩ := hc off cs[off] (by simp [hlt])
  subst hoff
  refine op_val hs m hd hok ?_ h
  unfold execOp
  rw [ho]
  have hp : a.eval x = .pointer (some ⟨g, off0 + off, none⟩) := by rw [hs.ev hx]; simp [vidx, Addr.add_mid]
  simp [hp, Instr.fieldAt, Sem.run_bind, run_underlying hu, Result.andThen, hf, Instr.sureAddr, fieldPlace, hz, hz0, Addr.add_mid, vidx, Nat.add_assoc]
end
theorem wcl_lt {ws : List Wd} {vs : List Value} {i : Nat} {w : Wd} {v : Value} (h : ws[i]? = some w) (h2 : vs[i]? = some v) : i * 2 < (wcl ws vs).length :=
  (List.getElem?_eq_some_iff.1 (wcl_get ws vs i w v h h2).1).1
theorem wcl_f0 {ws : List Wd} {vs : List Value} {i : Nat} {w : Wd} {v : Value} (h : ws[i]? = some w) (h2 : vs[i]? = some v) : ldv false 1 (wcl ws vs) (i * 2) = some (.int .u8 (w.1 : Int)) := (wcl_get ws vs i w v h h2).1
theorem wcl_f1 {ws : List Wd} {vs : List Value} {i : Nat} {w : Wd} {v : Value} (h : ws[i]? = some w) (h2 : vs[i]? = some v) : ldv false 1 (wcl ws vs) (i * 2 + 1) = some v := (wcl_get ws vs i w v h h2).2
theorem fill_six (x y u p q r : Value) (z : Value) (hx : x.cells = #[x]) (hy : y.cells = #[y]) (hu : u.cells = #[u]) (hp : p.cells = #[p]) (hq : q.cells = #[q]) (hr : r.cells = #[r]) :
    Instr.fill (fun i => some (i * 1, 1)) ((Array.range (6 * 1)).map (z.cells[· % z.cells.size]!)) [(0, x), (1, y), (2, u), (3, p), (4, q), (5, r)] = some [x, y, u, p, q, r].toArray := by
  simp [Instr.fill, hx, hy, hu, hp, hq, hr, show Array.range 6 = #[0, 1, 2, 3, 4, 5] from Array.ext' (by simp [List.range_succ])]
theorem eqlB {P : Program} {T : TypeId} {p q : Bool} (hu : P.underlying T = some .bool) (h : p = q) (w : World) : (binOp .eql T (.bool p) (.bool q)).run P w = .ok (.bool true) w := by
  subst h
  have := run_equalIn_bool (P := P) w 9999 T p p hu
  simp only [binOp, Sem.run_bind, Op.equal, Op.maxDepth, this, Result.andThen_ok, Sem.run_pure]
  simp
theorem smallQ_len {ws : List Wd} (h : smallQ ws = true) : ws.length ≤ 40 := by
  simp only [smallQ, Bool.and_eq_true, decide_eq_true_eq] at h
  exact h.1
theorem bysv_one {w : World} {Z : Nat → Prop} {v : Value} {p : List UInt8} (o : Nat) (h : ByV w Z v p) : BysV w Z [v] ([((o, p) : Wd)].map Prod.snd) := by
  refine ⟨rfl, fun i u k hu hk => ?_⟩
  cases i with
  | zero =>
    obtain rfl : v = u := by simpa using hu
    obtain rfl : p = k := by simpa using hk
    exact h
  | succ i => simp at hu
theorem small_one {o : Nat} {p : List UInt8} (ho : o < 256) (hp : p.length ≤ 400) : Small [((o, p) : Wd)] :=
  ⟨by simp, fun w hw => by obtain rfl : w = (o, p) := by simpa using hw
                           exact ⟨hp, ho⟩⟩
end Go.Proofs.Ytbjnlcblaonccaa
