/- Append onto nil; a block dropped; bytes to a string and back. -/
import Derived.Test.YtaeafgkjinhceaaSl
import Derived.Laws.IdiomStrings
import Derived.Laws.Concat
import Derived.Test.YtaeafgkjinhceaaDecP
namespace Go.Proofs.Ytaeafgkjinhceaa
open Go.RowKit
section
variable {P : Program} {T : TypeId} {x y : ByteArray}
theorem toList_beq (x y : ByteArray) : (x.toList == y.toList) = decide (x = y) := by
  rw [Bool.eq_iff_iff, beq_iff_eq, decide_eq_true_iff, ByteArray.toList_eq, ByteArray.toList_eq]
  exact ⟨fun h => ByteArray.ext (Array.toList_inj.1 h), fun h => h ▸ rfl⟩
theorem bin_addS (h : x.size + y.size ≤ 9223372036854775807) (w : World) : (binOp .add T (.string x) (.string y)).run P w = .ok (.string (x ++ y)) w := run_string_add_sum w x y h
theorem bin_eqlS {b : Bool} (h : decide (x = y) = b) (w : World) : (binOp .eql T (.string x) (.string y)).run P w = .ok (.bool b) w := by
  rw [binOp_string_eql, toList_beq, h]; rfl
theorem bin_neqS {b : Bool} (h : decide (x = y) = !b) (w : World) : (binOp .neq T (.string x) (.string y)).run P w = .ok (.bool b) w := by
  rw [binOp_string_neq, toList_beq, h, Bool.not_not]; rfl
end
/-- the lowest j figures, as a text -/
def sfx (a j : Nat) : ByteArray := ⟨((List.range j).map fun i => UInt8.ofNat (lof a (j - 1 - i))).toArray⟩
theorem sfx_size (a j : Nat) : (sfx a j).size = j := by simp [sfx, ByteArray.size]
theorem sfx_ne {a j : Nat} (h : 1 ≤ j) : decide (sfx a j = ⟨#[]⟩) = false := decide_eq_false fun e => by
  have := congrArg ByteArray.size e
  rw [sfx_size] at this
  have h0 : (⟨#[]⟩ : ByteArray).size = 0 := rfl
  omega
abbrev b1 (x : Nat) : ByteArray := ⟨#[UInt8.ofNat x]⟩
theorem sfx_add {a j x : Nat} (h : j ≤ 78) : (b1 x).size + (sfx a j).size ≤ 9223372036854775807 := by
  rw [sfx_size]; show 1 + j ≤ _; omega
theorem limN_small {r : Nat} (h : r < 10) : limN r 0 = r := by unfold limN; rw [Nat.mul_zero, Nat.pow_zero, Nat.div_one, Nat.mod_eq_of_lt (Nat.lt_trans h (by decide))]
theorem sfx_step {a j x : Nat} (h : lof a j = x) : b1 x ++ sfx a j = sfx a (j + 1) := by
  unfold sfx
  rw [show b1 x = ⟨[UInt8.ofNat x].toArray⟩ from rfl, ByteArray.mk_append_mk, List.range_succ_eq_map, List.map_cons, List.map_map]
  congr 2
  rw [List.singleton_append]
  congr 1
  · rw [← h]; rfl
  · apply List.map_congr_left
    intro i hi
    have := List.mem_range.1 hi
    simp only [Function.comp_apply]
    congr 2
    omega
theorem sfx_all {a j : Nat} (h : nd a = j) : sfx a j = dcs a := dcs_of (f := fun i => lof a (j - 1 - i)) h (fun _ _ => rfl)
section
variable {P : Program} {Q : Exit → Act → World → Prop} {K : Act → World → Prop} {a : Act} {w : World} {o : Oper} {n : Nat} {w0 : Bs} {fs : List Sl} {bs : List Bl}
theorem op_app0 (hs : St n w0 fs bs a w) (m mb : Option Nat) (k2 : Nat) {x y : Operand} {T E : TypeId} {z : Value} {κ : IntKind} {g2 bytes xv : Nat} {d : Nat}
    (ho : o.op = .call ⟨.builtin .append, #[x, y], #[T, T]⟩) (hd : o.dst = some d) (hx : ev fs x = some (.slice none 0 0)) (hy : ev fs y = some (.slice (some ⟨g2, 0, none⟩) 1 1))
    (hb2 : bs[k2]? = some (true, g2, E, [.int κ (xv : Int)])) (hu : P.underlying T = some (.slice E)) (hi : Inf P E z 1 bytes) (hzs : z.cells.size = 1) (hby : bytes ≤ 8)
    (f : Nat → Nat) (hf : f 0 = xv) (hokb : okb mb bs = true) (hok : okf m fs d n = true)
    (h : ∀ g' sp' a' w', St n w0 (putf m fs d (.slice (some ⟨g', 0, none⟩) 1 (tab κ 1 f ++ sp').length)) (putb mb bs (true, g', E, tab κ 1 f ++ sp')) a' w' → (tab κ 1 f ++ sp').length ≤ maxLen → K a' w') : o.wp P a w K Q := by
  obtain ⟨i, hi, hz, hs1, hb1⟩ := hi
  have hmax : (1000001 : Nat) ≤ maxLen := by decide
  refine wp_append_lies w x y T ho w.heap.size E i z 1 bytes hu hi hz hs1 hb1 hzs (by decide) _ 0 [] (hs.ev hx) (World.ownsRow_nil w _ E 1) ⟨g2, 0, none⟩ 1 1 [.int κ (xv : Int)] (hs.ev hy) rfl ?_ ?_ (by decide) (by omega) ?_ (Nat.le_refl _) _ rfl ?_
  · have := hs.news hb2 (i := 0) 1
    simpa using this
  · intro u hu
    obtain rfl := List.mem_singleton.1 hu
    rfl
  · omega
  · intro g' c' w' ho' hg' hat hlt
    rcases ho'.2 with ⟨hv, _⟩ | ⟨g3, cap, cur, hv, hge, hh, hle, hcm', hcs, htk⟩
    · cases hv
    · obtain ⟨rfl, rfl⟩ : g' = g3 ∧ c' = cap := by simpa using hv
      obtain ⟨sp', hcur⟩ : ∃ sp', cur.toList = [.int κ (xv : Int)] ++ sp' := ⟨cur.toList.drop ((0 + 1) * 1), by
        have e := List.take_append_drop ((0 + 1) * 1) cur.toList
        rw [htk] at e
        exact e.symm⟩
      have ht : tab κ 1 f = [.int κ (xv : Int)] := by rw [← hf]; rfl
      obtain rfl : cur = (tab κ 1 f ++ sp').toArray := by rw [ht, ← hcur]
      rw [hd]
      have hc : (tab κ 1 f ++ sp').length = c' := by simpa using hcs
      subst hc
      have hbl : Below w.heap.size w w' := (Below.refl w.heap.size w).grown hg' (Nat.le_refl _) (fun r hr => by cases hr)
      exact h g' sp' _ w' ((hs.add hokb hbl hge hh).put hok _) hcm'
theorem St.dropb (hs : St n w0 fs bs a w) (k : Nat) : St n w0 fs (bs.eraseIdx k) a w := by
  have key : ∀ i (e : Bl), (bs.eraseIdx k)[i]? = some e → bs[if i < k then i else i + 1]? = some e := fun i e h => by
    rw [List.getElem?_eraseIdx] at h
    split at h <;> rename_i hh <;> simp [hh, h]
  refine ⟨hs.size, hs.defers, hs.slots, fun i e h => hs.blks _ e (key i e h), fun i j e e' hij h h' => hs.apart _ _ e e' ?_ (key i e h) (key j e' h'), hs.below, fun p hp => ⟨(hs.frz p hp).1, fun i e h h1 => (hs.frz p hp).2 _ e (key i e h) h1⟩⟩
  split <;> split <;> omega
theorem conv_bs {S D E : TypeId} {k g c l : Nat} {f : Nat → Nat} {sp : List Value} (hs : St n w0 fs bs a w) (hb : bs[k]? = some (true, g, E, tab .u8 l f ++ sp)) (hf : ∀ j, j < l → f j < 256)
    (hu : P.underlying S = some (.slice E)) (he : P.underlying E = some (.int .u8)) (hd : P.underlying D = some .string) :
    (convert S D (.slice (some ⟨g, 0, none⟩) l c)).run P w = .ok (.string ⟨((List.range l).map fun i => UInt8.ofNat (f i)).toArray⟩) w := by
  have hl : ((List.range l).map fun i => UInt8.ofNat (f i)).length = l := by simp
  have := run_convert_bytes_back (P := P) w S D E ⟨g, 0, none⟩ c ((List.range l).map fun i => UInt8.ofNat (f i)) hu he hd (fun j hj => by
    have hj' : j < l := by simpa using hj
    rw [Addr.add_mid, Nat.zero_add, hs.cellT hb j hj']
    simp [Nat.mod_eq_of_lt (hf j hj')])
  rw [hl] at this
  exact this
theorem conv_bs0 {S D E : TypeId} {k g c l : Nat} {f : Nat → Nat} (hs : St n w0 fs bs a w) (hb : bs[k]? = some (true, g, E, tab .u8 l f)) (hf : ∀ j, j < l → f j < 256)
    (hu : P.underlying S = some (.slice E)) (he : P.underlying E = some (.int .u8)) (hd : P.underlying D = some .string) :
    (convert S D (.slice (some ⟨g, 0, none⟩) l c)).run P w = .ok (.string ⟨((List.range l).map fun i => UInt8.ofNat (f i)).toArray⟩) w :=
  conv_bs (sp := []) hs (by rw [List.append_nil]; exact hb) hf hu he hd
theorem conv_b1 {S D E : TypeId} {k g c x : Nat} (hs : St n w0 fs bs a w) (hb : bs[k]? = some (true, g, E, [.int .u8 (x : Int)])) (hf : x < 256)
    (hu : P.underlying S = some (.slice E)) (he : P.underlying E = some (.int .u8)) (hd : P.underlying D = some .string) :
    (convert S D (.slice (some ⟨g, 0, none⟩) 1 c)).run P w = .ok (.string ⟨#[UInt8.ofNat x]⟩) w :=
  conv_bs0 (l := 1) (f := fun _ => x) hs hb (fun _ _ => hf) hu he hd
theorem op_convW (hs : St n w0 fs bs a w) (m : Option Nat) {T U : TypeId} {x : Operand} {vx v : Value} {d : Nat} (ho : o.op = .convert T U x) (hd : o.dst = some d) (hx : ev fs x = some vx)
    (hr : (convert T U vx).run P w = .ok v w) (hok : okf m fs d n = true)
    (h : ∀ a', St n w0 (putf m fs d v) bs a' w → K a' w) : o.wp P a w K Q :=
  op_val hs m hd hok (by unfold execOp; rw [ho]; simp [hs.ev hx, Sem.run_bind, hr, Result.andThen]) h
end
end Go.Proofs.Ytaeafgkjinhceaa
