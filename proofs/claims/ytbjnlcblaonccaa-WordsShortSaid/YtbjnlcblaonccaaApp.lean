/- Appends onto rows beside the blocks; bytes to strings and back; loops' entries. -/
import Derived.Test.YtbjnlcblaonccaaBy
namespace Go.Proofs.Ytbjnlcblaonccaa
open Go.RowKit
/-- the address of a part -/
def vsa (a : Option Addr) (c z i : Nat) : Option Addr := if c = i then a else a.map (·.add (i * z))
theorem vsl_slice (a : Option Addr) (n c z i h : Nat) : vsl (.slice a n c) z i h = .slice (vsa a c z i) (h - i) (c - i) := rfl
section
variable {P : Program} {Q : Exit → Act → World → Prop} {K : Act → World → Prop} {a : Act} {w : World} {o : Oper} {n : Nat} {w0 : Bs} {fs : List Sl} {bs : List Bl}
/-- what a state is behind a row's growth -/
theorem St.grown (hs : St n w0 fs bs a w) (hF : w0.F = []) {k : Nat} {v v' : Value} {E : TypeId} {size N N' : Nat} {xs xs' : List Value} {w' : World} (hk : w0.S[k]? = some (true, .own v E size N xs)) (ho : w'.ownsRow 0 E size v' N' xs') (hg : w.grownBy w' v.ownBlock)
    (hv : v'.ownBlock = v.ownBlock ∨ v'.ownBlock = some w.heap.size) : St n (w0.withS (w0.S.set k (true, .own v' E size N' xs'))) fs bs a w' := by
  have hown := hs.fz k _ hk rfl
  have hvb : ∀ g, v.ownBlock = some g → Zs w0 bs k g ∧ w0.B g := fun g h => hown.2 g h
  have hsz := hs.below.size
  have key : ∀ (i : Nat) (x : Bool × Fz), (w0.S.set k (true, .own v' E size N' xs'))[i]? = some x → (i = k ∧ x = (true, .own v' E size N' xs')) ∨ (i ≠ k ∧ w0.S[i]? = some x) := by
    intro i x hx
    rw [List.getElem?_set] at hx
    split at hx
    · rename_i hik
      split at hx
      · exact .inl ⟨hik.symm, by simpa using hx.symm⟩
      · cases hx
    · rename_i hik; exact .inr ⟨fun e => hik e.symm, hx⟩
  refine ⟨hs.size, hs.defers, hs.slots, fun i e he h1 => ?_, hs.apart, hs.below.grown hg hs.below.size (fun g hg => (hvb g hg.symm.symm).2), fun p hp => ⟨?_, (hs.frz p hp).2⟩, fun i x hx h1 => ?_⟩
  · have hold := hs.blks i e he h1
    refine ⟨(hg.block _ (hs.lt he h1) fun e' => ?_).trans hold.1, hold.2⟩
    exact (hvb _ e'.symm).1.2.1 i e he h1 rfl
  · rw [hF] at hp; cases hp
  · rcases key i x hx with ⟨rfl, rfl⟩ | ⟨hik, h2⟩
    · refine ⟨ho, fun g hgb => ?_⟩
      rcases hv with hv | hv
      · have := (hvb g (hv ▸ hgb)).1
        exact ⟨⟨this.1, this.2.1, fun j y hji hj hy => by
          rcases key j y hj with ⟨hjk, _⟩ | ⟨_, h3⟩
          · exact absurd hjk hji
          · exact this.2.2 j y hji h3 hy⟩, (hvb g (hv ▸ hgb)).2⟩
      · have hgw : g = w.heap.size := by rw [hv] at hgb; exact (Option.some.inj hgb).symm
        have hBg : w0.B g := .inl (by have : w0.w.heap.size ≤ w.heap.size := hsz; show w0.w.heap.size ≤ g; omega)
        refine ⟨⟨.inr hBg, fun j b hj hb1 => ?_, fun j y hji hj hy => ?_⟩, hBg⟩
        · have := hs.lt hj hb1; omega
        · rcases key j y hj with ⟨hjk, _⟩ | ⟨_, h3⟩
          · exact absurd hjk hji
          · intro ho'
            have := (Fz.ok_lt (hs.fz j y h3 hy) ho').1
            omega
    · have hz : ∀ g, Zs w0 bs i g → g < w.heap.size → Zs (w0.withS (w0.S.set k (true, .own v' E size N' xs'))) bs i g := by
        intro g hgz hlt
        refine ⟨hgz.1, hgz.2.1, ?_⟩
        intro j y hji hj hy
        rcases key j y hj with ⟨rfl, rfl⟩ | ⟨_, h3⟩
        · intro ho'
          rcases hv with hv | hv
          · exact hgz.2.2 j _ hji hk rfl (show v.ownBlock = some g by rw [← hv]; exact ho')
          · have : g = w.heap.size := by
              have h5 : v'.ownBlock = some g := ho'
              rw [hv] at h5; exact (Option.some.inj h5).symm
            omega
        · exact hgz.2.2 j y hji h3 hy
      refine Fz.ok_mono (fun _ _ h => h) (fun g hgz hlt => ⟨hz g hgz hlt, hg.block g hlt ?_⟩) (hs.fz i x h2 h1)
      intro e'
      exact hgz.2.2 k _ (fun e => hik e.symm) hk rfl e'.symm
/-- the news of an append: a row's cells -/
theorem celv_news {w : World} {Z : Nat → Prop} {ad : Option Addr} {M c : Nat} {cs : List Value} (h : CelV w Z (.slice ad M c) M cs) : (ad = none ∧ M = 0 ∧ c = 0) ∨ ∃ p, ad = some p ∧ ∀ (j : Nat) (u : Value), cs[j]? = some u → w.cell? (p.add j) = some u := by
  obtain ⟨ad', c', e, h2, h3, h4, h5⟩ := h
  obtain ⟨rfl, rfl⟩ : ad = ad' ∧ c = c' := by simpa using e
  cases ad with
  | none => have := h4 rfl; exact .inl ⟨rfl, by omega, this⟩
  | some p =>
    refine .inr ⟨p, rfl, fun j u hu => ?_⟩
    obtain ⟨g, off, e2, _, h6⟩ := h5 j u hu
    obtain rfl : p = ⟨g, off, none⟩ := by simpa using e2
    rw [Addr.add_mid]; exact h6
theorem app_core (hs : St n w0 fs bs a w) (m : Option Nat) (k : Nat) {x y : Operand} {T E : TypeId} {z v : Value} {size bytes N M c : Nat} {ad : Option Addr} {xs cs : List Value} {d : Nat} (hF : w0.F = [])
    (ho : o.op = .call ⟨.builtin .append, #[x, y], #[T, T]⟩) (hd : o.dst = some d) (hx : ev fs x = some v) (hy : ev fs y = some (.slice ad M c)) (hk : w0.S[k]? = some (true, .own v E size N xs))
    (hnews : (ad = none ∧ M = 0 ∧ c = 0) ∨ ∃ p, ad = some p ∧ ∀ (j : Nat) (u : Value), cs[j]? = some u → w.cell? (p.add j) = some u)
    (hu : P.underlying T = some (.slice E)) (hi : Inf P E z size bytes) (hzs : z.cells.size = size) (hs0 : 0 < size) (hcl : cs.length = M * size) (h1 : ∀ u ∈ cs, u.oneCell' = true) (hby : bytes ≤ 64) (hl : N + M ≤ 1000000) (hok : okf m fs d n = true)
    (h : ∀ a' c' act w', St n (w0.withS (w0.S.set k (true, .own (.slice a' (N + M) c') E size (N + M) (xs ++ cs)))) (putf m fs d (.slice a' (N + M) c')) bs act w' → K act w') : o.wp P a w K Q := by
  obtain ⟨i, hi, hz, hs1, hb1⟩ := hi
  have hmax : (1000001 : Nat) ≤ maxLen := by decide
  have hown := (hs.fz k _ hk rfl).1
  have hm : (#[x, y] : Array Operand).map a.eval = #[v, .slice ad M c] := by simp [hs.ev hx, hs.ev hy]
  unfold Oper.wp execOp
  rw [ho]
  simp only [resolve, hm, Sem.run_bind, Sem.run_pure, Result.andThen_ok, invoke, builtin]
  rcases hnews with ⟨rfl, rfl, rfl⟩ | ⟨p, rfl, hnews⟩
  · have hcs : cs = [] := by simpa using hcl
    subst hcs
    rw [run_append_owned_none (P := P) (w := w) 0 T o.type E i size hu hi v N xs hown]
    simp only [Result.andThen_ok, Sem.run_pure, Oper.upon_value, hd, Nat.add_zero, List.append_nil] at h ⊢
    have hv : ∃ a' c', v = .slice a' N c' := by
      rcases hown.2 with ⟨rfl, rfl⟩ | ⟨g, cap, cur, rfl, _⟩
      · exact ⟨_, _, rfl⟩
      · exact ⟨_, _, rfl⟩
    obtain ⟨a', c', rfl⟩ := hv
    refine h a' c' _ _ (St.put ?_ hok _)
    have := hs.ownEq k hk rfl rfl
    exact this
  · obtain ⟨v', w', hr, h2, h3, h4, h5⟩ := run_append_own_at (P := P) w 0 T o.type E i z size bytes hu hi hz hs1 hb1 hzs hs0 v N xs hown p M c cs hcl hnews h1 (by omega) (by
      have : (N + M) * bytes ≤ 1000000 * 64 := Nat.mul_le_mul hl hby
      omega) (Nat.zero_le _)
    rw [hr]
    have hv : ∃ a' c', v' = .slice a' (N + M) c' := by
      rcases h2.2 with ⟨rfl, h0⟩ | ⟨g, cap, cur, rfl, _⟩
      · exact ⟨none, 0, by rw [h0]⟩
      · exact ⟨_, _, rfl⟩
    obtain ⟨a', c', rfl⟩ := hv
    simp only [Result.andThen_ok, Sem.run_pure, Oper.upon_value, hd]
    exact h a' c' _ _ ((hs.grown hF hk h2 h3 h5).put hok _)
/-- onto a row of one's own: another row -/
theorem op_appO (hs : St n w0 fs bs a w) (m : Option Nat) (k k2 : Nat) {x y : Operand} {T E : TypeId} {z v : Value} {size bytes N M c : Nat} {ad : Option Addr} {xs cs : List Value} {d : Nat} (hF : w0.F = [])
    (ho : o.op = .call ⟨.builtin .append, #[x, y], #[T, T]⟩) (hd : o.dst = some d) (hx : ev fs x = some v) (hy : ev fs y = some (.slice ad M c)) (hk : w0.S[k]? = some (true, .own v E size N xs)) (hk2 : rowAt w0.S k2 = some (.slice ad M c, M, cs))
    (hu : P.underlying T = some (.slice E)) (hi : Inf P E z size bytes) (hzs : z.cells.size = size) (hs0 : 0 < size) (hcl : cs.length = M * size) (h1 : ∀ u ∈ cs, u.oneCell' = true) (hby : bytes ≤ 64) (hl : N + M ≤ 1000000) (hok : okf m fs d n = true)
    (h : ∀ a' c' act w', St n (w0.withS (w0.S.set k (true, .own (.slice a' (N + M) c') E size (N + M) (xs ++ cs)))) (putf m fs d (.slice a' (N + M) c')) bs act w' → K act w') : o.wp P a w K Q :=
  app_core hs m k hF ho hd hx hy hk (celv_news (hs.row hk2)) hu hi hzs hs0 hcl h1 hby hl hok h
/-- onto a row of one's own: a literal -/
theorem op_appB (hs : St n w0 fs bs a w) (m : Option Nat) (k k2 : Nat) {x y : Operand} {T E : TypeId} {z v : Value} {size bytes N M g2 c : Nat} {xs cs : List Value} {d : Nat} (hF : w0.F = [])
    (ho : o.op = .call ⟨.builtin .append, #[x, y], #[T, T]⟩) (hd : o.dst = some d) (hx : ev fs x = some v) (hy : ev fs y = some (.slice (some ⟨g2, 0, none⟩) M c)) (hk : w0.S[k]? = some (true, .own v E size N xs)) (hb2 : bs[k2]? = some (true, g2, E, cs))
    (hu : P.underlying T = some (.slice E)) (hi : Inf P E z size bytes) (hzs : z.cells.size = size) (hs0 : 0 < size) (hcl : cs.length = M * size) (h1 : ∀ u ∈ cs, u.oneCell' = true) (hby : bytes ≤ 64) (hl : N + M ≤ 1000000) (hok : okf m fs d n = true)
    (h : ∀ a' c' act w', St n (w0.withS (w0.S.set k (true, .own (.slice a' (N + M) c') E size (N + M) (xs ++ cs)))) (putf m fs d (.slice a' (N + M) c')) bs act w' → K act w') : o.wp P a w K Q :=
  app_core hs m k hF ho hd hx hy hk (.inr ⟨_, rfl, fun j u hu => by
    rw [Addr.add_mid, Nat.zero_add, cell_of_row w g2 j _ E _ (hs.blk hb2)]; simpa using hu⟩) hu hi hzs hs0 hcl h1 hby hl hok h
/-- a block of one's own, as a row that is appended to -/
theorem St.toOwn (hs : St n w0 fs bs a w) (ms : Option Nat) (k : Nat) {g : Nat} {E : TypeId} {size N c : Nat} {cs xs : List Value} (hb : bs[k]? = some (true, g, E, cs)) (hc : cs.length = c * size) (hN : N ≤ c) (hm : c ≤ maxLen) (hx : cs.take (N * size) = xs) (hok : okS ms w0.S 1 = true) :
    St n (w0.withS (putS ms w0.S [.own (.slice (some ⟨g, 0, none⟩) N c) E size N xs])) fs (bs.set k (false, g, E, cs)) a w := by
  have hbk := hs.blks k _ hb rfl
  have key : ∀ (i : Nat) (e : Bl), (bs.set k (false, g, E, cs))[i]? = some e → e.1 = true → bs[i]? = some e ∧ i ≠ k := by
    intro i e h h1
    rw [List.getElem?_set] at h
    split at h
    · split at h
      · obtain rfl := Option.some.inj h; cases h1
      · cases h
    · rename_i hik; exact ⟨h, fun e => hik e.symm⟩
  have h0 : St n w0 fs (bs.set k (false, g, E, cs)) a w :=
    ⟨hs.size, hs.defers, hs.slots, fun i e h h1 => hs.blks i e (key i e h h1).1 h1, fun i j e e' hij h h' h1 h1' => hs.apart i j e e' hij (key i e h h1).1 (key j e' h' h1').1 h1 h1', hs.below, fun p hp => ⟨(hs.frz p hp).1, fun i e h h1 => (hs.frz p hp).2 i e (key i e h h1).1 h1⟩,
      fun i e h h1 => Fz.ok_mono (fun _ _ h => h) (fun x hx _ => ⟨⟨hx.1, fun j b hj hb1 => hx.2.1 j b (key j b hj hb1).1 hb1, hx.2.2⟩, rfl⟩) (hs.fz i e h h1)⟩
  have hlen : xs.length = N * size := by
    rw [← hx, List.length_take, hc]
    exact Nat.min_eq_left (Nat.mul_le_mul_right _ hN)
  have hrow : w.ownsRow 0 E size (.slice (some ⟨g, 0, none⟩) N c) N xs :=
    ⟨hlen, .inr ⟨g, c, cs.toArray, rfl, Nat.zero_le _, hbk.1, hN, hm, by simpa using hc, by simpa using hx⟩⟩
  have hz : Zall w0 (bs.set k (false, g, E, cs)) g := by
    refine ⟨.inr hbk.2, fun j b hj hb1 => ?_, fun j e hj he ho => ?_⟩
    · obtain ⟨h1, h2⟩ := key j b hj hb1
      exact hs.apart j k b (true, g, E, cs) h2 h1 hb hb1 rfl
    · exact (Fz.ok_lt (hs.fz j e hj he) ho).2.1.2.1 k _ hb rfl rfl
  obtain ⟨kk, pkey⟩ := putS_get (m := ms) (S := w0.S) (l := [.own (.slice (some ⟨g, 0, none⟩) N c) E size N xs]) hok
  refine ⟨h0.size, h0.defers, h0.slots, h0.blks, h0.apart, h0.below, h0.frz, fun i e h h1 => ?_⟩
  rcases pkey i e h with ⟨hki, _, hLi⟩ | ⟨hS, hno⟩
  · have hi0 : i - kk = 0 := by
      have := (List.getElem?_eq_some_iff.1 hLi).1
      simp at this; omega
    rw [hi0] at hLi
    obtain ⟨b, e2⟩ := e
    obtain rfl : Fz.own (.slice (some ⟨g, 0, none⟩) N c) E size N xs = e2 := by simpa using hLi
    refine ⟨hrow, fun g' hg' => ?_⟩
    obtain rfl : g = g' := by simpa [Value.ownBlock] using hg'
    refine ⟨⟨hz.1, hz.2.1, fun j e' hji hj he' => ?_⟩, hbk.2⟩
    rcases pkey j e' hj with ⟨hkj, _, hLj⟩ | ⟨hSj, _⟩
    · have := (List.getElem?_eq_some_iff.1 hLj).1
      simp at this; omega
    · exact hz.2.2 j e' hSj he'
  · refine Fz.ok_mono (fun _ _ h => h) (fun x hx hlt => ⟨⟨hx.1, fun j b hj hb1 => hx.2.1 j b (key j b hj hb1).1 hb1, fun j e' hji hj he' => ?_⟩, rfl⟩) (hs.fz i e hS h1)
    rcases pkey j e' hj with ⟨hkj, _, hLj⟩ | ⟨hSj, _⟩
    · have hj0 : j - kk = 0 := by
        have := (List.getElem?_eq_some_iff.1 hLj).1
        simp at this; omega
      rw [hj0] at hLj
      have : Fz.own (.slice (some ⟨g, 0, none⟩) N c) E size N xs = e'.2 := by simpa using hLj
      rw [← this]
      intro hgx
      have hgx' : g = x := by simpa [Fz.owns, Value.ownBlock] using hgx
      exact hx.2.1 k _ hb rfl hgx'
    · exact hx.2.2 j e' hji hSj he'
/-- bytes -/
def byt (l : List UInt8) (j : Nat) : Nat := (l.getD j 0).toNat
theorem byt_lt (l : List UInt8) (j : Nat) : byt l j < 256 := UInt8.toNat_lt _
theorem bcs_length (l : List UInt8) : (bcs l).length = l.length := by simp [bcs]
theorem bcs_get {l : List UInt8} {j : Nat} (h : j < l.length) : (bcs l)[j]? = some (.int .u8 (byt l j : Int)) := by
  simp [bcs, byt, h]
theorem bcs_part (l : List UInt8) (i k : Nat) : ((bcs l).drop (i * 1)).take (k * 1) = bcs ((l.drop i).take k) := by
  simp [bcs, List.map_drop, List.map_take]
theorem bcs_one (l : List UInt8) : ∀ u ∈ bcs l, u.oneCell' = true := by
  intro u hu
  obtain ⟨b, _, rfl⟩ := List.mem_map.1 hu
  rfl
theorem bcs_len1 {l : List UInt8} {M : Nat} (h : M = l.length) : (bcs l).length = M * 1 := by rw [bcs_length, h, Nat.mul_one]
theorem bcs_append (l k : List UInt8) : bcs l ++ bcs k = bcs (l ++ k) := by simp [bcs]
theorem bcs_cell {b : UInt8} {x : Nat} (h : b.toNat = x) : [Value.int .u8 (x : Int)] = bcs [b] := by simp [bcs, h]
theorem St.padS (hs : St n w0 fs bs a w) {e : Fz} : St n (w0.withS (w0.S ++ [(false, e)])) fs bs a w := by
  have key : ∀ (i : Nat) (x : Bool × Fz), (w0.S ++ [(false, e)])[i]? = some x → x.1 = true → w0.S[i]? = some x := by
    intro i x h h1
    rw [List.getElem?_append] at h
    split at h
    · exact h
    · obtain ⟨hlt, rfl⟩ := List.getElem?_eq_some_iff.1 h
      simp at h1
  exact ⟨hs.size, hs.defers, hs.slots, hs.blks, hs.apart, hs.below, hs.frz, fun i x h h1 => Fz.ok_mono (fun _ _ h => h) (fun g hg _ => ⟨⟨hg.1, hg.2.1, fun j y hji hj hy => hg.2.2 j y hji (key j y hj hy) hy⟩, rfl⟩) (hs.fz i x (key i x h h1) h1)⟩
theorem toList_beq (x y : ByteArray) : (x.toList == y.toList) = decide (x = y) := by
  rw [Bool.eq_iff_iff, beq_iff_eq, decide_eq_true_iff, ByteArray.toList_eq, ByteArray.toList_eq]
  exact ⟨fun h => ByteArray.ext (Array.toList_inj.1 h), fun h => h ▸ rfl⟩
/-- a text of bytes -/
abbrev txt (l : List UInt8) : ByteArray := ⟨l.toArray⟩
theorem txt_inj {l k : List UInt8} : txt l = txt k ↔ l = k := by
  constructor
  · intro h
    have := congrArg ByteArray.data h
    simpa using this
  · intro h; rw [h]
theorem bin_eqlT {T : TypeId} {l k : List UInt8} {b : Bool} (h : decide (l = k) = b) (w : World) : (binOp .eql T (.string (txt l)) (.string (txt k))).run P w = .ok (.bool b) w := by
  rw [binOp_string_eql, toList_beq, show decide (txt l = txt k) = decide (l = k) from decide_eq_decide.2 txt_inj, h]
  rfl
theorem bin_neqT {T : TypeId} {l k : List UInt8} {b : Bool} (h : decide (l = k) = !b) (w : World) : (binOp .neq T (.string (txt l)) (.string (txt k))).run P w = .ok (.bool b) w := by
  rw [binOp_string_neq, toList_beq, show decide (txt l = txt k) = decide (l = k) from decide_eq_decide.2 txt_inj, h, Bool.not_not]
  rfl
theorem op_convBS (hs : St n w0 fs bs a w) (m : Option Nat) (k : Nat) {T U E : TypeId} {x : Operand} {ad : Option Addr} {M c : Nat} {l : List UInt8} {d : Nat} (ho : o.op = .convert T U x) (hd : o.dst = some d) (hx : ev fs x = some (.slice ad M c))
    (hk : rowAt w0.S k = some (.slice ad M c, M, bcs l)) (hM : M = l.length) (hS : P.underlying T = some (.slice E)) (hE : P.underlying E = some (.int .u8)) (hD : P.underlying U = some .string) (hok : okf m fs d n = true)
    (h : ∀ a', St n w0 (putf m fs d (.string (txt l))) bs a' w → K a' w) : o.wp P a w K Q := by
  subst hM
  refine op_val hs m hd hok ?_ h
  unfold execOp
  rw [ho]
  simp only [hs.ev hx]
  rcases celv_news (hs.row hk) with ⟨rfl, h0, rfl⟩ | ⟨p, rfl, hn⟩
  · have : l = [] := List.length_eq_zero_iff.1 h0
    subst this
    have e : (convert T U (.slice none 0 0)).run P w = .ok (.string (txt [])) w := by
      rw [run_convert_bytes_string w T U E none 0 0 hS hE hD]
      simp [Conv.bytesToString]
      rfl
    simp [e, Sem.run_bind, Result.andThen]
  · have := run_convert_bytes_back (P := P) w T U E p c l hS hE hD (fun j hj => by
      have h2 := hn j (.int .u8 (l[j].toNat : Int)) (by simp [bcs, hj])
      exact h2)
    simp [this, Sem.run_bind, Result.andThen]
/-- the same three, in forms of one's own choice -/
theorem op_appR (hs : St n w0 fs bs a w) (m : Option Nat) (k k2 : Nat) {x y : Operand} {T E : TypeId} {z v : Value} {size bytes N M c N' : Nat} {ad : Option Addr} {xs cs ys : List Value} {d : Nat}
    (ho : o.op = .call ⟨.builtin .append, #[x, y], #[T, T]⟩) (hd : o.dst = some d) (hx : ev fs x = some v) (hy : ev fs y = some (.slice ad M c)) (hk : w0.S[k]? = some (true, .own v E size N xs)) (hk2 : rowAt w0.S k2 = some (.slice ad M c, M, cs))
    (hu : P.underlying T = some (.slice E)) (hi : Inf P E z size bytes) (hzs : z.cells.size = size) (hs0 : 0 < size) (hcl : cs.length = M * size) (h1 : ∀ u ∈ cs, u.oneCell' = true) (hby : bytes ≤ 64) (hl : N + M ≤ 1000000) (hN : N + M = N') (hys : xs ++ cs = ys) (hF : w0.F = []) (hok : okf m fs d n = true)
    (h : ∀ a' c' act w', St n (w0.withS (w0.S.set k (true, .own (.slice a' N' c') E size N' ys))) (putf m fs d (.slice a' N' c')) bs act w' → K act w') : o.wp P a w K Q := by
  subst hN; subst hys
  exact op_appO hs m k k2 hF ho hd hx hy hk hk2 hu hi hzs hs0 hcl h1 hby hl hok h
theorem op_sliceR (hs : St n w0 fs bs a w) (m ms : Option Nat) (k i j : Nat) {T E : TypeId} {x : Operand} {lo hi : Option Operand} {ad : Option Addr} {z N c N' : Nat} {cs cs' : List Value} {d : Nat} (ho : o.op = .slice T x lo hi none) (hd : o.dst = some d) (hx : ev fs x = some (.slice ad N c))
    (hk : w0.S[k]? = some (true, .cel (.slice ad N c) N cs)) (hlo : lo = none ∧ i = 0 ∨ ∃ y κ, lo = some y ∧ ev fs y = some (.int κ (i : Int))) (hhi : hi = none ∧ j = N ∨ ∃ y κ, hi = some y ∧ ev fs y = some (.int κ (j : Int)))
    (hu : P.underlying T = some (.slice E)) (hz : ∀ w, (sizeOf E).run P w = .ok z w) (h1 : i ≤ j) (h2 : j ≤ N) (hN : j - i = N') (hc : (cs.drop (i * z)).take ((j - i) * z) = cs') (hokS : okS ms w0.S 1 = true) (hok : okf m fs d n = true)
    (hK : ∀ a', St n (w0.withS (putS ms w0.S [.cel (.slice (vsa ad c z i) N' (c - i)) N' cs'])) (putf m fs d (.slice (vsa ad c z i) N' (c - i))) bs a' w → K a' w) : o.wp P a w K Q := by
  subst hN; subst hc
  exact op_sliceC hs m ms k i j ho hd hx hk hlo hhi hu hz h1 h2 hokS hok hK
theorem St.ownLast (hs : St n w0 fs bs a w) (ms : Option Nat) {g : Nat} {E : TypeId} {size N c : Nat} {cs xs : List Value} {bs' : List Bl} (hbs : bs = bs' ++ [(true, g, E, cs)]) (hc : cs.length = c * size) (hN : N ≤ c) (hm : c ≤ maxLen) (hx : cs.take (N * size) = xs) (hok : okS ms w0.S 1 = true) :
    St n (w0.withS (putS ms w0.S [.own (.slice (some ⟨g, 0, none⟩) N c) E size N xs])) fs bs' a w := by
  subst hbs
  have h1 := hs.toOwn ms bs'.length (g := g) (E := E) (size := size) (N := N) (c := c) (cs := cs) (xs := xs) (by simp) hc hN hm hx hok
  have h2 := h1.takeb bs'.length
  have e : ((bs' ++ [(true, g, E, cs)]).set bs'.length (false, g, E, cs)).take bs'.length = bs' := by
    rw [List.take_set_of_le (Nat.le_refl _), List.take_left]
  rw [e] at h2
  exact h2
theorem op_bsO (hs : St n w0 fs bs a w) (m ms : Option Nat) {T E : TypeId} {ps : Array (Nat × Operand)} {l : Nat} {qs : List (Nat × Value)} {z : Value} {size bytes : Nat} {cs cs' : List Value} {d : Nat} (ho : o.op = .buildSlice T l ps) (hd : o.dst = some d)
    (hx : evs fs (ps.toList.map (·.2)) = some (qs.map (·.2))) (hi : ps.toList.map (·.1) = qs.map (·.1)) (hu : P.underlying T = some (.slice E)) (hI : Inf P E z size bytes) (hl : l * size ≤ 1000) (hl0 : 0 < l * size)
    (hf : Instr.fill (fun i => some (i * size, size)) ((Array.range (l * size)).map (z.cells[· % z.cells.size]!)) qs = some cs.toArray) (hlen : cs.length = l * size) (hc : cs = cs') (hokS : okS ms w0.S 1 = true) (hok : okf m fs d n = true)
    (h : ∀ a' act w', St n (w0.withS (putS ms w0.S [.own (.slice a' l l) E size l cs'])) (putf m fs d (.slice a' l l)) bs act w' → K act w') : o.wp P a w K Q := by
  subst hc
  obtain ⟨ie, hie, hz, hs1, _⟩ := hI
  have hmax : (1000001 : Nat) ≤ maxLen := by decide
  have hsz : 1 ≤ size := by
    rcases Nat.eq_zero_or_pos size with h0 | h0
    · rw [h0, Nat.mul_zero] at hl0; omega
    · exact h0
  have hll : l ≤ 1000 := Nat.le_trans (by have := Nat.mul_le_mul_left l hsz; omega) hl
  refine op_buildSlice hs m none (E := E) (l := l) (qs := qs) (cs := cs) ho hd hx hi (fun w => ?_) rfl hok fun g act w' hs' => ?_
  · refine run_buildSlice w T E l _ _ ie z hu hie hz ?_ ?_ ?_
    · rw [hs1]; omega
    · rw [hs1]; omega
    · rw [hs1]; exact hf
  · exact h (some ⟨g, 0, none⟩) act w' (hs'.ownLast ms rfl hlen (Nat.le_refl _) (by omega) (by rw [← hlen]; exact List.take_length) hokS)
theorem op_bsO0 (hs : St n w0 fs bs a w) (m ms : Option Nat) {T E : TypeId} {z : Value} {size bytes : Nat} {d : Nat} (ho : o.op = .buildSlice T 0 #[]) (hd : o.dst = some d) (hu : P.underlying T = some (.slice E)) (hI : Inf P E z size bytes)
    (hokS : okS ms w0.S 1 = true) (hok : okf m fs d n = true)
    (h : ∀ a' act w', St n (w0.withS (putS ms w0.S [.own (.slice a' 0 0) E size 0 []])) (putf m fs d (.slice a' 0 0)) bs act w' → K act w') : o.wp P a w K Q := by
  refine op_bs0 hs m none ho hd hu hI rfl hok fun g act w' hs' => ?_
  exact h (some ⟨g, 0, none⟩) act w' (hs'.ownLast ms (size := size) (N := 0) (c := 0) (xs := []) rfl (by simp) (Nat.le_refl _) (by decide) (by simp) hokS)
/-- an empty row with room -/
theorem op_makeO (hs : St n w0 fs bs a w) (m ms : Option Nat) {T E : TypeId} {x y : Operand} {z : Value} {size bytes c : Nat} {kl kc : IntKind} {d : Nat} (ho : o.op = .makeSlice T x y) (hd : o.dst = some d) (hx : ev fs x = some (.int kl ((0 : Nat) : Int))) (hy : ev fs y = some (.int kc (c : Int)))
    (hu : P.underlying T = some (.slice E)) (hI : Inf P E z size bytes) (hc : c ≤ 10000) (hzs : z.cells.size = size) (hs0 : 0 < size) (hs8 : size ≤ 8) (hby : bytes ≤ 64) (hokS : okS ms w0.S 1 = true) (hok : okf m fs d n = true)
    (h : ∀ a' act w', St n (w0.withS (putS ms w0.S [.own (.slice a' 0 c) E size 0 []])) (putf m fs d (.slice a' 0 c)) bs act w' → K act w') : o.wp P a w K Q := by
  obtain ⟨i, hi, hz, hs1, hb1⟩ := hI
  have hmax : (1000001 : Nat) ≤ maxLen := by decide
  have hsz : c * size ≤ 10000 * 8 := Nat.mul_le_mul hc hs8
  have hbz : bytes * c ≤ 64 * 10000 := Nat.mul_le_mul hby hc
  refine op_makeSlice hs m none (l := 0) (c := c) (cs := (madeCells z.cells (c * i.size)).toList) ho hd hx hy hu hi hz (Nat.zero_le _) ?_ ?_ ?_ (by simp) rfl hok fun g act w' hs' => ?_
  · rw [hs1]; omega
  · rw [hb1]; omega
  · omega
  · refine h (some ⟨g, 0, none⟩) act w' (hs'.ownLast ms rfl ?_ (Nat.zero_le _) (by omega) (by simp) hokS)
    rw [hs1]
    simp [madeCells]
theorem fill_one (x : Value) (z : Value) (hx : x.cells = #[x]) : Instr.fill (fun i => some (i * 1, 1)) ((Array.range (1 * 1)).map (z.cells[· % z.cells.size]!)) [(0, x)] = some [x].toArray := by
  simp [Instr.fill, hx, show Array.range 1 = #[0] from Array.ext' (by simp [List.range_succ])]
theorem fill_two (x y : Value) (z : Value) (hx : x.cells = #[x]) (hy : y.cells = #[y]) : Instr.fill (fun i => some (i * 1, 1)) ((Array.range (2 * 1)).map (z.cells[· % z.cells.size]!)) [(0, x), (1, y)] = some [x, y].toArray := by
  simp [Instr.fill, hx, hy, show Array.range 2 = #[0, 1] from Array.ext' (by simp [List.range_succ])]
theorem fill_three (x y u : Value) (z : Value) (hx : x.cells = #[x]) (hy : y.cells = #[y]) (hu : u.cells = #[u]) : Instr.fill (fun i => some (i * 1, 1)) ((Array.range (3 * 1)).map (z.cells[· % z.cells.size]!)) [(0, x), (1, y), (2, u)] = some [x, y, u].toArray := by
  simp [Instr.fill, hx, hy, hu, show Array.range 3 = #[0, 1, 2] from Array.ext' (by simp [List.range_succ])]
/-- a row of one element of two cells -/
theorem fill_pair (x y : Value) (z : Value) : Instr.fill (fun i => some (i * 2, 2)) ((Array.range (1 * 2)).map (z.cells[· % z.cells.size]!)) [(0, .agg #[x, y])] = some [x, y].toArray := by
  simp [Instr.fill, Value.cells, show Array.range 2 = #[0, 1] from Array.ext' (by simp [List.range_succ])]
theorem bcs_cons {x : Nat} {cs : List Value} {l : List UInt8} (h : x < 256) (hl : cs = bcs l) : Value.int .u8 (x : Int) :: cs = bcs (UInt8.ofNat x :: l) := by
  subst hl
  have : (UInt8.ofNat x).toNat = x := by simp; omega
  simp only [bcs, List.map_cons, this]
theorem bcs_lo {l : List UInt8} {i : Nat} : ((bcs l).drop (i * 1)).take ((l.length - i) * 1) = bcs (l.drop i) := by
  rw [bcs_part, List.take_of_length_le (by simp)]
theorem bcs_hi {l : List UInt8} {j : Nat} : ((bcs l).drop (0 * 1)).take ((j - 0) * 1) = bcs (l.take j) := by
  rw [bcs_part]; simp
theorem len_lo {l : List UInt8} {i : Nat} : l.length - i = (l.drop i).length := List.length_drop.symm
theorem len_hi {l : List UInt8} {j : Nat} (h : j ≤ l.length) : j - 0 = (l.take j).length := by simp; omega
theorem len_both {l : List UInt8} {i j : Nat} (h : i ≤ j) (h2 : j ≤ l.length) : j - i = ((l.drop i).take (j - i)).length := by simp; omega
/-- what a call's facts are -/
def Sok (w : World) (Z : Nat → Prop) (B : Nat → Prop) (S : List (Bool × Fz)) : Prop := ∀ (i : Nat) (e : Bool × Fz), S[i]? = some e → e.1 = true → e.2.ok w Z B
theorem sok0 {w : World} {Z : Nat → Prop} {B : Nat → Prop} : Sok w Z B [] := fun i e h => by simp at h
theorem sokC {w : World} {Z : Nat → Prop} {B : Nat → Prop} {e : Fz} {S : List (Bool × Fz)} (h : e.ok w Z B) (hS : Sok w Z B S) : Sok w Z B ((true, e) :: S) := by
  intro i x hx h1
  cases i with
  | zero =>
    obtain rfl : (true, e) = x := by simpa using hx
    exact h
  | succ i => exact hS i x (by simpa using hx) h1
theorem byv_len {w : World} {Z : Nat → Prop} {ad : Option Addr} {N c : Nat} {l : List UInt8} (h : ByV w Z (.slice ad N c) l) : N = l.length := by
  obtain ⟨_, _, e, _⟩ := h
  simp at e; exact e.2.1
theorem byv_nil {w : World} {Z : Nat → Prop} : ByV w Z (.slice none 0 0) [] := celv_nil
theorem bysv_at {w : World} {Z : Nat → Prop} {vs : List Value} {ls : List (List UInt8)} (h : BysV w Z vs ls) {i : Nat} {l : List UInt8} (hl : ls[i]? = some l) : ∃ ad c, vs[i]? = some (.slice ad l.length c) := by
  have hi : i < vs.length := by rw [h.1]; exact (List.getElem?_eq_some_iff.1 hl).1
  obtain ⟨ad, c, e, _⟩ := h.2 i vs[i] l (by simp [hi]) hl
  exact ⟨ad, c, by simp [hi, e]⟩
/-- a list of byte strings grows by one -/
theorem bysv_snoc {w : World} {Z : Nat → Prop} {vs : List Value} {ls : List (List UInt8)} {v : Value} {l : List UInt8} (h : BysV w Z vs ls) (hv : ByV w Z v l) : BysV w Z (vs ++ [v]) (ls ++ [l]) := by
  refine ⟨by simp [h.1], fun i u k hu hk => ?_⟩
  rw [List.getElem?_append] at hu hk
  rw [h.1] at hu
  split at hu
  · rename_i hlt
    rw [if_pos hlt] at hk
    exact h.2 i u k hu hk
  · rename_i hge
    rw [if_neg hge] at hk
    have h0 : i - ls.length = 0 := by
      have := (List.getElem?_eq_some_iff.1 hk).1
      simp at this; omega
    rw [h0] at hu hk
    obtain rfl : v = u := by simpa using hu
    obtain rfl : l = k := by simpa using hk
    exact hv
theorem bin_eqlNil {T E : TypeId} {ad : Option Addr} {N c : Nat} (hu : P.underlying T = some (.slice E)) (w : World) : (binOp .eql T (.slice ad N c) (.slice none 0 0)).run P w = .ok (.bool ad.isNone) w := by
  have h0 : ∀ d, (Op.equalIn (d + 1) T (.slice ad N c) (.slice none 0 0)).run P w = .ok ad.isNone w := by
    intro d
    cases ad <;> simp [Op.equalIn, run_underlying hu]
  have h := h0 9999
  simp only [binOp, Sem.run_bind, Op.equal, Op.maxDepth]
  rw [h]
  rfl
theorem byv_none {w : World} {Z : Nat → Prop} {ad : Option Addr} {N c : Nat} {l : List UInt8} (h : ByV w Z (.slice ad N c) l) (hn : ad.isNone = true) : l = [] := by
  obtain ⟨a', c', e, h1, _, h2, _⟩ := h
  simp at e
  obtain ⟨rfl, e2, rfl⟩ := e
  cases ad with
  | none => have := h2 rfl; exact List.length_eq_zero_iff.1 (by omega)
  | some _ => cases hn
theorem okl_nil {w : World} {Z : Nat → Prop} {B : Nat → Prop} {l : List UInt8} (h : l = []) : OkL w Z B [.cel (.slice none l.length 0) l.length (bcs l)] := by
  subst h; exact okl1 celv_nil
theorem ret_nil {l : List UInt8} (h : l = []) : Value.slice none 0 0 = .slice none l.length 0 := by subst h; rfl
theorem St.nilBys (hs : St n w0 fs bs a w) (m : Option Nat) (hok : okS m w0.S 1 = true) : St n (w0.withS (putS m w0.S [.bys [] []])) fs bs a w :=
  hs.pushS m hok (okl1 ⟨rfl, fun i v l h => by simp at h⟩)
theorem St.snocBys (hs : St n w0 fs bs a w) (k kp : Nat) {vs : List Value} {ls ls' : List (List UInt8)} {v : Value} {l : List UInt8} (h : w0.S[k]? = some (true, .bys vs ls)) (hp : w0.S[kp]? = some (true, .cel v l.length (bcs l))) (hl : ls ++ [l] = ls') :
    St n (w0.withS (w0.S.set k (true, .bys (vs ++ [v]) ls'))) fs bs a w := by
  subst hl
  have key : ∀ (i : Nat) (x : Bool × Fz), (w0.S.set k (true, .bys (vs ++ [v]) (ls ++ [l])))[i]? = some x → (i = k ∧ x = (true, .bys (vs ++ [v]) (ls ++ [l]))) ∨ (i ≠ k ∧ w0.S[i]? = some x) := by
    intro i x hx
    rw [List.getElem?_set] at hx
    split at hx
    · rename_i hik
      split at hx
      · exact .inl ⟨hik.symm, by simpa using hx.symm⟩
      · cases hx
    · rename_i hik; exact .inr ⟨fun e => hik e.symm, hx⟩
  have z : ∀ i g, Zs w0 bs i g → Zs (w0.withS (w0.S.set k (true, .bys (vs ++ [v]) (ls ++ [l])))) bs i g := fun i g hg => ⟨hg.1, hg.2.1, fun j y hji hj hy ho' => by
    rcases key j y hj with ⟨_, rfl⟩ | ⟨_, h3⟩
    · cases ho'
    · exact hg.2.2 j y hji h3 hy ho'⟩
  refine ⟨hs.size, hs.defers, hs.slots, hs.blks, hs.apart, hs.below, hs.frz, fun i x hx h1 => ?_⟩
  rcases key i x hx with ⟨rfl, rfl⟩ | ⟨_, h2⟩
  · have h1' : BysV w (Zs w0 bs i) vs ls := hs.fz i _ h rfl
    have h2' : ByV w (Zs w0 bs i) v l := CelV.any (hs.fz kp _ hp rfl) fun g hg => ⟨hg.1, hg.2.1, fun j e hji hj hf => by
      by_cases hjk : j = kp
      · subst hjk
        rw [hp] at hj
        obtain rfl := Option.some.inj hj
        intro ho'; cases ho'
      · exact hg.2.2 j e hjk hj hf⟩
    exact Fz.ok_mono (e := .bys (vs ++ [v]) (ls ++ [l])) (fun _ _ h => h) (fun g hg _ => ⟨z i g hg, rfl⟩) (bysv_snoc h1' h2')
  · exact Fz.ok_mono (fun _ _ h => h) (fun g hg _ => ⟨z i g hg, rfl⟩) (hs.fz i _ h2 h1)
end
end Go.Proofs.Ytbjnlcblaonccaa
