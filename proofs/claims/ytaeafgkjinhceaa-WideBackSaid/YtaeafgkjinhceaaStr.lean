/- Strings: their bytes, a string as a row of bytes; what a text of figures tells. -/
import Derived.Test.YtaeafgkjinhceaaPrt
import Derived.Laws.Strings
namespace Go.Proofs.Ytaeafgkjinhceaa
open Go.RowKit
def sb (s : ByteArray) (j : Nat) : Nat := (s.data.toList.getD j 0).toNat
theorem sb_lt (s : ByteArray) (j : Nat) : sb s j < 256 := UInt8.toNat_lt _
theorem sb_at {s : ByteArray} {j : Nat} (h : j < s.size) : (s[j]'h).toNat = sb s j := by
  unfold sb
  have e : s[j]'h = s.data[j]'h := rfl
  rw [e, List.getD_eq_getElem?_getD, Array.getElem?_toList, Array.getElem?_eq_getElem h, Option.getD_some]
def ocell : Obj → Nat → Option Value
  | .cells cs _ _, j => cs[j]?
  | _, _ => none
section
variable {P : Program} {Q : Exit → Act → World → Prop} {K : Act → World → Prop} {a : Act} {w : World} {o : Oper} {n : Nat} {w0 : Bs} {fs : List Sl} {bs : List Bl}
theorem blt_lenS {ty T : TypeId} {s : ByteArray} (hu : P.underlying T = some .string) (hb : s.size < 9223372036854775808) : ∀ cs w, (builtin .len #[T] ty cs [Value.string s].toArray).run P w = .ok (.value (.int .i64 (s.size : Int))) w := by
  intro cs w
  simp [builtin, Sem.run_bind, run_len_string w T ty s hu, Result.andThen, goInt]
theorem idx_s {T : TypeId} {k : IntKind} {s : ByteArray} {j : Nat} (hu : P.underlying T = some .string) (hj : j < s.size) (w : World) : (Instr.index T (.string s) (.int k (j : Int))).run P w = .ok (.int .u8 (sb s j : Int)) w := by
  rw [run_index_string w T s k j hu, dif_pos ⟨by omega, by omega⟩]
  have := sb_at hj
  simp only [Int.toNat_natCast]
  rw [this]
theorem op_convSB (hs : St n w0 fs bs a w) (m : Option Nat) {T U E : TypeId} {x : Operand} {s : ByteArray} {d : Nat} (ho : o.op = .convert T U x) (hd : o.dst = some d) (hx : ev fs x = some (.string s))
    (hS : P.underlying T = some .string) (hD : P.underlying U = some (.slice E)) (hE : P.underlying E = some (.int .u8)) (hok : okf m fs d n = true)
    (h : ∀ g c ob a' w', (∀ j, j < s.size → ocell ob j = some (.int .u8 (sb s j : Int))) → St n ⟨w0.w, (g, ob) :: w0.F⟩ (putf m fs d (.slice (some ⟨g, 0, none⟩) s.size c)) bs a' w' → K a' w') : o.wp P a w K Q := by
  unfold Oper.wp execOp
  rw [ho]
  simp only [hs.ev hx, Sem.run_bind, run_bytes_of_string w T U E s hS hD hE, Result.andThen_ok, Sem.run_pure, Oper.upon_value, hd]
  generalize hob : Obj.cells (bytesRow s (grownCap w s.size 0 E)) E ((bytesRow s (grownCap w s.size 0 E)).size, (bytesRow s (grownCap w s.size 0 E)).size + 1) = ob
  have hw : Below w.heap.size w (w.drew.alloc ob) := (Below.refl w.heap.size w).drew.alloc (Nat.le_refl _) ob
  have h1 := hs.grow hw
  have hat : (w.drew.alloc ob).heap[w.heap.size]? = some ob := heap_alloc_new w.drew ob
  have hst : St n ⟨w0.w, (w.heap.size, ob) :: w0.F⟩ fs bs a (w.drew.alloc ob) := ⟨h1.size, h1.defers, h1.slots, h1.blks, h1.apart, h1.below, fun p hp => by
    rcases List.mem_cons.1 hp with rfl | hp
    · exact ⟨hat, fun i e he h1' => Nat.ne_of_lt (hs.lt he h1')⟩
    · exact h1.frz p hp⟩
  refine h w.heap.size _ ob _ _ (fun j hj => ?_) (hst.put hok _)
  · rw [← hob]
    clear hob hst hat h1 hw
    have h2 : j < s.data.size := hj
    simp only [ocell, bytesRow]
    rw [Array.getElem?_append_left (by simpa using h2), Array.getElem?_map, Array.getElem?_eq_getElem h2]
    rw [← sb_at hj]
    rfl
theorem op_loadF (hs : St n w0 fs bs a w) (m : Option Nat) {t : TypeId} {x : Operand} {g j : Nat} {ob : Obj} {v : Value} {d : Nat} (ho : o.op = .load t x) (hd : o.dst = some d)
    (hx : ev fs x = some (.pointer (some ⟨g, j, none⟩))) (hu : ∀ w, (isAgg t).run P w = .ok false w) (hp : (g, ob) ∈ w0.F) (hc : ocell ob j = some v) (hok : okf m fs d n = true)
    (h : ∀ a', St n w0 (putf m fs d v) bs a' w → K a' w) : o.wp P a w K Q :=
  op_val hs m hd hok (by
    unfold execOp
    rw [ho]
    have hg := (hs.frz _ hp).1
    have hc' : w.cell? ⟨g, j, none⟩ = some v := by
      cases ob with
      | cells cs T m => rw [cell_of_row w g j cs T m hg]; exact hc
      | _ => cases hc
    simp [hs.ev hx, Instr.loadAt, Instr.sureAddr, loadVar, Sem.run_bind, hu, Result.andThen, hc']) h
end
/-- the number that the first j figures tell -/
def dv (s : ByteArray) : Nat → Nat
  | 0 => 0
  | j + 1 => dv s j * 10 + (sb s j - 48)
theorem dv_mono (s : ByteArray) : ∀ (k j : Nat), dv s j ≤ dv s (j + k)
  | 0, _ => Nat.le_refl _
  | k + 1, j => Nat.le_trans (dv_mono s k j) (by rw [← Nat.add_assoc, dv]; omega)
theorem dv_le {s : ByteArray} {i j : Nat} (h : i ≤ j) : dv s i ≤ dv s j := by
  have := dv_mono s (j - i) i
  rwa [show i + (j - i) = j by omega] at this
def Figs (s : ByteArray) (n : Nat) : Prop := ∀ j, j < n → 48 ≤ sb s j ∧ sb s j ≤ 57
open Classical in
noncomputable def txE (s : ByteArray) : Nat := if s.size = 0 ∨ 1 < s.size ∧ sb s 0 = 48 then 3 else if Figs s s.size then (if 2 ^ 256 ≤ dv s s.size then 4 else 0) else 3
open Classical in
noncomputable def txV (s : ByteArray) : Nat := if txE s = 0 then dv s s.size else 0
theorem tx_head {s : ByteArray} (h : s.size = 0 ∨ 1 < s.size ∧ sb s 0 = 48) : txE s = 3 := by unfold txE; rw [if_pos h]
theorem tx_bad {s : ByteArray} {i : Nat} (hi : i < s.size) (h : ¬ (48 ≤ sb s i ∧ sb s i ≤ 57)) : txE s = 3 := by
  unfold txE; split
  · rfl
  · rw [if_neg fun hf => h (hf i hi)]
theorem tx_big {s : ByteArray} (h0 : ¬ (s.size = 0 ∨ 1 < s.size ∧ sb s 0 = 48)) (hf : Figs s s.size) (h : 2 ^ 256 ≤ dv s s.size) : txE s = 4 := by unfold txE; rw [if_neg h0, if_pos hf, if_pos h]
theorem tx_ok {s : ByteArray} (h0 : ¬ (s.size = 0 ∨ 1 < s.size ∧ sb s 0 = 48)) (hf : Figs s s.size) (h : ¬ 2 ^ 256 ≤ dv s s.size) : txE s = 0 := by unfold txE; rw [if_neg h0, if_pos hf, if_neg h]
theorem tx_V0 {s : ByteArray} {e : Nat} (h : txE s = e) (he : e ≠ 0) : txV s = 0 := by unfold txV; rw [if_neg (by rw [h]; exact he)]
theorem tx_V {s : ByteArray} (h : txE s = 0) : txV s = dv s s.size := by unfold txV; rw [if_pos h]
theorem figs_succ {s : ByteArray} {i : Nat} (hf : Figs s i) (h1 : 48 ≤ sb s i) (h2 : sb s i ≤ 57) : Figs s (i + 1) := fun j hj => by
  rcases Nat.lt_or_ge j i with h | h
  · exact hf j h
  · obtain rfl : j = i := by omega
    exact ⟨h1, h2⟩
theorem tx_size0 {s : ByteArray} : decide (s = ⟨#[]⟩) = decide (s.size = 0) := by
  rw [Bool.eq_iff_iff, decide_eq_true_iff, decide_eq_true_iff]
  exact ⟨fun h => h ▸ rfl, fun h => ByteArray.ext (Array.eq_empty_of_size_eq_zero h)⟩
theorem acc_ov {s : ByteArray} {i : Nat} (h : 2 ^ 256 ≤ dv s i) : 2 ^ 256 ≤ dv s (i + 1) := Nat.le_trans h (dv_le (Nat.le_succ i))
theorem acc_val {s : ByteArray} {i T lo u : Nat} (hT : dv s i % 2 ^ 256 = T) (hlo : T * 10 % 2 ^ 256 = lo) (hu : (lo + (sb s i - 48)) % 2 ^ 256 = u) : dv s (i + 1) % 2 ^ 256 = u := by
  rw [dv, ← hu, ← hlo, ← hT]
  generalize 2 ^ 256 = M
  rw [Nat.mod_add_mod, Nat.add_mod (dv s i % M * 10), Nat.mod_mul_mod, ← Nat.add_mod]
theorem acc_eq {D T d lo hi u c M : Nat} (hM : 0 < M) (hD : D < M) (hT : D % M = T) (hlo : T * 10 % M = lo) (hhi : T * 10 / M = hi) (hu : (lo + d) % M = u) (hc : (lo + d) / M = c) : D * 10 + d = M * (hi + c) + u := by
  rw [Nat.mod_eq_of_lt hD] at hT
  subst hT
  have h1 := Nat.div_add_mod (D * 10) M
  have h2 := Nat.div_add_mod (lo + d) M
  rw [hlo, hhi] at h1
  rw [hu, hc] at h2
  rw [Nat.mul_add]
  omega
theorem acc_hi {s : ByteArray} {i T lo hi u c : Nat} (h0 : ¬ 2 ^ 256 ≤ dv s i) (hT : dv s i % 2 ^ 256 = T) (hlo : T * 10 % 2 ^ 256 = lo) (hhi : T * 10 / 2 ^ 256 = hi) (hu : (lo + (sb s i - 48)) % 2 ^ 256 = u) (hc : (lo + (sb s i - 48)) / 2 ^ 256 = c) (h : hi ≠ 0) : 2 ^ 256 ≤ dv s (i + 1) := by
  rw [dv, acc_eq (Nat.two_pow_pos 256) (Nat.lt_of_not_le h0) hT hlo hhi hu hc]
  generalize 2 ^ 256 = M
  have := Nat.mul_le_mul_left M (show 1 ≤ hi + c by omega)
  omega
theorem acc_lo {s : ByteArray} {i T lo hi u c : Nat} (h0 : ¬ 2 ^ 256 ≤ dv s i) (hT : dv s i % 2 ^ 256 = T) (hlo : T * 10 % 2 ^ 256 = lo) (hhi : T * 10 / 2 ^ 256 = hi) (hu : (lo + (sb s i - 48)) % 2 ^ 256 = u) (hc : (lo + (sb s i - 48)) / 2 ^ 256 = c) (h : hi = 0) : decide (0 < c) = decide (2 ^ 256 ≤ dv s (i + 1)) := by
  have e : (2 ^ 256 ≤ dv s (i + 1)) = (0 < c) := by
    rw [dv, acc_eq (Nat.two_pow_pos 256) (Nat.lt_of_not_le h0) hT hlo hhi hu hc, h, Nat.zero_add]
    have hlt : u < 2 ^ 256 := by rw [← hu]; exact Nat.mod_lt _ (Nat.two_pow_pos 256)
    generalize 2 ^ 256 = M at *
    apply propext
    constructor
    · intro h1
      rcases Nat.eq_zero_or_pos c with hz | hz
      · rw [hz, Nat.mul_zero, Nat.zero_add] at h1; omega
      · exact hz
    · intro h1
      have := Nat.mul_le_mul_left M (show 1 ≤ c from h1)
      omega
  simp only [e]
theorem acc_fit {s : ByteArray} {i T lo hi u c : Nat} (h0 : ¬ 2 ^ 256 ≤ dv s i) (hT : dv s i % 2 ^ 256 = T) (hlo : T * 10 % 2 ^ 256 = lo) (hhi : T * 10 / 2 ^ 256 = hi) (hu : (lo + (sb s i - 48)) % 2 ^ 256 = u) (hc : (lo + (sb s i - 48)) / 2 ^ 256 = c) (h : hi = 0) (hc0 : ¬ 0 < c) : ¬ 2 ^ 256 ≤ dv s (i + 1) := by
  have := acc_lo h0 hT hlo hhi hu hc h
  rw [decide_eq_false hc0] at this
  exact of_decide_eq_false this.symm
theorem acc_big {s : ByteArray} {i T lo hi u c : Nat} (h0 : ¬ 2 ^ 256 ≤ dv s i) (hT : dv s i % 2 ^ 256 = T) (hlo : T * 10 % 2 ^ 256 = lo) (hhi : T * 10 / 2 ^ 256 = hi) (hu : (lo + (sb s i - 48)) % 2 ^ 256 = u) (hc : (lo + (sb s i - 48)) / 2 ^ 256 = c) (h : hi = 0) (hc0 : 0 < c) : 2 ^ 256 ≤ dv s (i + 1) := by
  have := acc_lo h0 hT hlo hhi hu hc h
  rw [decide_eq_true hc0] at this
  exact of_decide_eq_true this.symm
theorem dv_0 (s : ByteArray) : dv s 0 % 2 ^ 256 = 0 := Nat.zero_mod _
theorem dv_0n (s : ByteArray) : decide (2 ^ 256 ≤ dv s 0) = false := decide_eq_false (Nat.not_le_of_lt (Nat.two_pow_pos 256))
end Go.Proofs.Ytaeafgkjinhceaa
