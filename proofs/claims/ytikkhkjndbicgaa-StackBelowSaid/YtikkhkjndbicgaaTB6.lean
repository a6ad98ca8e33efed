/- Several texts in one, what this law needs of them: StkV, StkL, StkB2, StkM, Frame, FrameN, FrameE, FrameK. -/
import Derived.Test.YtikkhkjndbicgaaTB5
import Derived.Test.YtikkhkjndbicgaaRows
import Derived.WalkKit
import Derived.ProofKit
import Derived.OpenShut
import Derived.ChangeOld
import Derived.Below

/- Stacks that stay as they are: copies of entries, literals. -/
namespace Go.Proofs.Ytikkhkjndbicgaa
open Go.RowKit
section
variable {P : Program} {a : Act} {w : World} {n : Nat} {w0 : Bs} {fs : List Sl} {bs : List Bl} {vs us xs : List Value} {ks js ts : BL} {G : Nat → Prop}
theorem St.splitY (hs : St n w0 fs bs a w) (k : Nat) (h : w0.S[k]? = some (true, .bys (vs ++ us ++ xs) (ks ++ js ++ ts))) (hl : vs.length = ks.length) (hu : us.length = js.length) :
    St n (w0.withS (putS none (putS none w0.S [.bys vs ks]) [.bys us js])) fs bs a w := by
  have h1 := hs.all h rfl
  have f : ∀ vs' ks', vs'.length = ks'.length → (∀ p ∈ vs'.zip ks', p ∈ (vs ++ us ++ xs).zip (ks ++ js ++ ts)) → BysV w (Zall w0 bs) vs' ks' := fun vs' ks' hl' hp => bysv_iff.2 ⟨hl', fun p h => (bysv_iff.1 h1).2 p (hp p h)⟩
  have hs1 := hs.pushS none (L := [.bys vs ks]) rfl (okl1 (f vs ks hl fun p hp => mem_main hl hp))
  have h2 : (w0.withS (putS none w0.S [.bys vs ks])).S[k]? = some (true, .bys (vs ++ us ++ xs) (ks ++ js ++ ts)) := by
    simp only [putS]
    rw [List.getElem?_append_left (List.getElem?_eq_some_iff.1 h).1]; exact h
  have h3 := hs1.all h2 rfl
  exact hs1.pushS none rfl (okl1 (bysv_iff.2 ⟨hu, fun p hp => (bysv_iff.1 h3).2 p (mem_alt hl hu hp)⟩))
end
theorem le_one {n : Nat} (h0 : 0 < n) (h : n < 256) : le n = [UInt8.ofNat n] := by
  rw [le_pos n (by omega), Nat.mod_eq_of_lt h, Nat.div_eq_of_lt h, le_zero]
theorem enc_one {n : Nat} (h0 : 0 < n) (h : n < 128) : enc (n : Int) = [UInt8.ofNat n] := by
  unfold enc
  rw [show (n : Int).natAbs = n from Int.natAbs_natCast n, le_one h0 (by omega), decide_eq_false (by omega)]
  have h1 : (UInt8.ofNat n).toNat = n := by simp; omega
  have h2 := sgn_low (xs := [UInt8.ofNat n]) (N := 0) (c := n) false rfl h1 h
  rw [h2]; rfl
theorem dec_one {n : Nat} (h0 : 0 < n) (h : n < 128) : decN [UInt8.ofNat n] 4 = ((n : Int), 0) := by
  have h1 : (UInt8.ofNat n).toNat = n := by simp; omega
  have hv : val [UInt8.ofNat n] = (n : Int) := by
    rw [val_low [UInt8.ofNat n] 0 n rfl h1 h]
    simp [vl]
  unfold decN decOk
  rw [hv, enc_one h0 h]
  simp
theorem do_147 : doL 147 [[UInt8.ofNat 2], [UInt8.ofNat 3]] [] = ([[UInt8.ofNat 5]], [], 0) := by
  have h2 := dec_one (n := 2) (by decide) (by decide)
  have h3 := dec_one (n := 3) (by decide) (by decide)
  have h5 := enc_one (n := 5) (by decide) (by decide)
  have hm : movL 147 [[UInt8.ofNat 2], [UInt8.ofNat 3]] [] 0 = (false, [[UInt8.ofNat 2], [UInt8.ofNat 3]], [], 0) := by simp [movL]
  have hr : redL 147 [[UInt8.ofNat 2], [UInt8.ofNat 3]] 0 = (false, [[UInt8.ofNat 2], [UInt8.ofNat 3]], 0) := by simp [redL]
  have ho : opsL 2 [[UInt8.ofNat 2], [UInt8.ofNat 3]] 0 = ([2, 3], [], 0) := by
    have p1 : popL [[UInt8.ofNat 2], [UInt8.ofNat 3]] 0 = ([UInt8.ofNat 3], [[UInt8.ofNat 2]], 0) := pop_snoc (A := [[UInt8.ofNat 2]])
    have p2 : popL [[UInt8.ofNat 2]] 0 = ([UInt8.ofNat 2], [], 0) := pop_snoc (A := [])
    have r1 : readL [UInt8.ofNat 3] 4 0 = (3, 0) := h3
    have r2 : readL [UInt8.ofNat 2] 4 0 = (2, 0) := h2
    unfold opsL
    rw [if_pos (by decide), opsR_step (n := 1) p1 r1, opsR_step (n := 0) p2 r2]
    rfl
  have hc : recL 147 [[UInt8.ofNat 2], [UInt8.ofNat 3]] 0 = (true, [[UInt8.ofNat 5]], 0) := by
    unfold recL
    rw [if_neg (by decide), if_neg (by decide), if_neg (by decide), if_neg (by decide), ho]
    show (true, ([] : BL) ++ [enc ((5 : Nat) : Int)], 0) = _
    rw [h5]; rfl
  unfold doL
  simp only [hm, hr, hc, Bool.false_eq_true, if_false, if_true]
  decide
theorem do_255 : doL 255 [] [] = ([], [], 10) := by decide
theorem do_126 : doL 126 [[UInt8.ofNat 1], [UInt8.ofNat 2]] [] = ([[UInt8.ofNat 1, UInt8.ofNat 2]], [], 0) := by decide
theorem St.bysEq {a : Act} {w : World} {n : Nat} {w0 : Bs} {fs : List Sl} {bs : List Bl} (hs : St n w0 fs bs a w) (k : Nat) {vs vs' : List Value} {ls ls' : BL} (h : w0.S[k]? = some (true, .bys vs ls)) (hv : vs = vs') (hl : ls = ls') : St n (w0.withS (w0.S.set k (true, .bys vs' ls'))) fs bs a w := by
  subst hv; subst hl
  exact hs.conS k h (fun Z hz => hz) (fun g hg => hg)
theorem celv_max {w : World} {Z : Nat → Prop} {a : Option Addr} {n c : Nat} {cs : List Value} (h : CelV w Z (.slice a n c) n cs) : n ≤ 9223372036854775807 := by
  obtain ⟨a', c', e, h1, h2, _⟩ := h
  have hm : maxLen = 9223372036854775807 := rfl
  omega
theorem allB_go {ks : BL} {i : Nat} {y : List UInt8} (h : ks[i]? = some y) (hy : ¬ 600 < y.length) (h0 : allB 600 (ks.take i) = true) : allB 600 (ks.take (i + 1)) = true := by
  rw [← take_snocB h]
  unfold allB at h0 ⊢
  rw [List.all_append, h0]
  simp; omega
theorem allB_end {ks : BL} {i : Nat} (h : ¬ i < ks.length) (h0 : allB 600 (ks.take i) = true) : allB 600 ks = true := by rwa [List.take_of_length_le (by omega)] at h0
theorem allB_no {ks : BL} {i : Nat} {y : List UInt8} (h : ks[i]? = some y) (hy : 600 < y.length) : allB 600 ks = false := by
  cases hb : allB 600 ks with
  | false => rfl
  | true =>
    unfold allB at hb
    rw [List.all_eq_true] at hb
    have := hb y (List.mem_of_getElem? h)
    simp at this; omega
theorem small_len {ks js : BL} (h : 110 < ks.length ∨ 110 < js.length) : smallS ks js = false := by
  unfold smallS
  rcases h with h | h
  · rw [decide_eq_false (by omega)]; rfl
  · rw [decide_eq_false (show ¬ js.length ≤ 110 by omega), Bool.and_false]; rfl
theorem small_no1 {ks js : BL} (h : allB 600 ks = false) : smallS ks js = false := by unfold smallS; rw [h, Bool.and_false]; rfl
theorem small_no2 {ks js : BL} (h : allB 600 js = false) : smallS ks js = false := by unfold smallS; rw [h, Bool.and_false]
theorem small_yes {ks js : BL} (h1 : ¬ 110 < ks.length) (h2 : ¬ 110 < js.length) (h3 : allB 600 ks = true) (h4 : allB 600 js = true) : smallS ks js = true := by
  unfold smallS
  rw [h3, h4, decide_eq_true (by omega), decide_eq_true (by omega)]; rfl
theorem same_go {ks js : BL} {i : Nat} {y z : List UInt8} (hy : ks[i]? = some y) (hz : js[i]? = some z) (h : y = z) (h0 : ks.take i = js.take i) : ks.take (i + 1) = js.take (i + 1) := by
  rw [← take_snocB hy, ← take_snocB hz, h0, h]
theorem same_no {ks js : BL} {i : Nat} {y z : List UInt8} (hy : ks[i]? = some y) (hz : js[i]? = some z) (h : ¬ y = z) : ¬ ks = js := fun e => by
  subst e
  rw [hy] at hz
  exact h (Option.some.inj hz)
theorem same_end {ks js : BL} {i : Nat} (h : ¬ i < ks.length) (hl : ks.length = js.length) (h0 : ks.take i = js.take i) : ks = js := by
  rwa [List.take_of_length_le (by omega), List.take_of_length_le (by omega)] at h0
end Go.Proofs.Ytikkhkjndbicgaa

/- Stacks: the laws' own functions. -/
namespace Go.Proofs.Ytikkhkjndbicgaa
open Go.RowKit
set_option maxRecDepth 10000
set_option maxHeartbeats 1000000
theorem same1_c (a1 : Option Addr) (c1 : Nat) (v1 : List Value) (k1 : BL) (a2 : Option Addr) (c2 : Nat) (v2 : List Value) (k2 : BL) (q : Bool) (hq : decide (k1 = k2) = q) (w0 : World) (Z : Nat → Prop) (hV1 : CelV w0 Z (.slice a1 k1.length c1) k1.length v1) (hY1 : BysV w0 Z v1 k1) (hV2 : CelV w0 Z (.slice a2 k2.length c2) k2.length v2) (hY2 : BysV w0 Z v2 k2): Calls Try.prog 17 #[.slice a1 k1.length c1, .slice a2 k2.length c2] w0 fun e w' => Ret w0 Z (ρ := Unit) (fun r => .bool q) (fun r => []) e w' := by
  have hm1 := celv_max hV1
  refine enterS (n := 28) (args := [.slice a1 k1.length c1, .slice a2 k2.length c2]) (S := [(true, .cel (.slice a1 k1.length c1) k1.length v1), (true, .bys v1 k1), (true, .cel (.slice a2 k2.length c2) k2.length v2), (true, .bys v2 k2)]) (Z := Z) Try.func17 rfl rfl (Nat.le_of_ble_eq_true rfl) (sokC hV1 (sokC hY1 (sokC hV2 (sokC hY2 sok0)))) rfl fun ac hs => ?_
  refine wp_seq ?_
  refine wp_region_lit ?_
  refine lstep (wpO_plain rfl (op_assign hs none rfl rfl rfl rfl fun ac hs => ?_))
  refine wpList_nil ?_
  refine then_n ?_
  refine wp_seq ?_
  refine wp_seq ?_
  refine wp_region_lit ?_
  refine lstep (wpO_plain rfl (op_move hs none rfl rfl rfl rfl fun ac hs => ?_))
  refine lstep (wpO_plain rfl (op_blt hs none (v := .int .i64 ((k1.length : Nat) : Int)) rfl rfl rfl (blt_len Try.underlying22) rfl fun ac hs => ?_))
  refine lstep (wpO_plain rfl (op_move hs none rfl rfl rfl rfl fun ac hs => ?_))
  refine lstep (wpO_plain rfl (op_blt hs none (v := .int .i64 ((k2.length : Nat) : Int)) rfl rfl rfl (blt_len Try.underlying22) rfl fun ac hs => ?_))
  refine lstep (wpO_plain rfl (op_bin hs none (v := .bool (decide (k1.length ≠ k2.length))) rfl rfl rfl rfl (fun _ => rfl) (bin_neqN (x := k1.length) (y := k2.length)) rfl fun ac hs => ?_))
  refine wpList_nil ?_
  refine then_n ?_
  refine wp_cond_split (hs.ev rfl) (fun hc => ?_) (fun hc => ?_)
  · skip
    have hp1 := of_decide_eq_true hc
    have hne : ¬ k1 = k2 := fun e => of_decide_eq_true hc (congrArg List.length e)
    refine wp_seq ?_
    replace hs : St 28 ⟨w0, [], [(true, .cel (.slice a1 k1.length c1) k1.length v1), (true, .bys v1 k1), (true, .cel (.slice a2 k2.length c2) k2.length v2), (true, .bys v2 k2)], Z, noX⟩ [(0, true, .slice a1 k1.length c1), (1, true, .slice a2 k2.length c2), (4, true, .bool false)] [] ac _ := hs.re ⟨rfl, rfl, rfl, trivial⟩
    refine wp_region_lit ?_
    refine lstep (wpO_plain rfl (op_assign hs none rfl rfl rfl rfl fun ac hs => ?_))
    refine wpList_nil ?_
    refine then_n ?_
    refine wp_ret ?_
    refine then_r ?_
    exact bodyPost_ret (res1 rfl (rv_t hs rfl)) hs.defers ⟨(), by rw [← hq, decide_eq_false hne], hs.bel rfl, okl0⟩
  · skip
    have hp2 := of_decide_eq_false hc
    have hlen : k1.length = k2.length := Classical.not_not.1 (of_decide_eq_false hc)
    refine wp_skip ?_
    refine then_n ?_
    refine wp_seq ?_
    refine wp_seq ?_
    replace hs : St 28 ⟨w0, [], [(true, .cel (.slice a1 k1.length c1) k1.length v1), (true, .bys v1 k1), (true, .cel (.slice a2 k2.length c2) k2.length v2), (true, .bys v2 k2)], Z, noX⟩ [(0, true, .slice a1 k1.length c1), (1, true, .slice a2 k2.length c2), (4, true, .bool false)] [] ac _ := hs.re ⟨rfl, rfl, rfl, trivial⟩
    refine wp_region_lit ?_
    refine lstep (wpO_plain rfl (op_assign hs none rfl rfl rfl rfl fun ac hs => ?_))
    refine wpList_nil ?_
    refine then_n ?_
    refine wp_block ?_
    refine wp_loop_m (fun μ ac w => ∃ (i : Nat), (k1.length - i) = μ ∧ (i ≤ k1.length) ∧ (k1.take i = k2.take i) ∧ St 28 ⟨w0, [], [(true, .cel (.slice a1 k1.length c1) k1.length v1), (true, .bys v1 k1), (true, .cel (.slice a2 k2.length c2) k2.length v2), (true, .bys v2 k2)], Z, noX⟩ [(0, true, .slice a1 k1.length c1), (1, true, .slice a2 k2.length c2), (4, true, .bool false), (5, true, .int .i64 ((i : Nat) : Int))] [] ac w) ?_ ?_
    · exact ⟨_, 0, rfl, (by omega), rfl, (hs.re (fs' := [(0, true, .slice a1 k1.length c1), (1, true, .slice a2 k2.length c2), (4, true, .bool false), (5, true, .int .i64 ((0 : Nat) : Int))]) ⟨rfl, rfl, rfl, rfl, trivial⟩)⟩
    intro μ ac w ⟨i, hμ, hi, hti, hs⟩
    refine wp_seq ?_
    refine wp_seq ?_
    refine wp_region_lit ?_
    refine lstep (wpO_plain rfl (op_move hs none rfl rfl rfl rfl fun ac hs => ?_))
    refine lstep (wpO_plain rfl (op_move hs none rfl rfl rfl rfl fun ac hs => ?_))
    refine lstep (wpO_plain rfl (op_blt hs none (v := .int .i64 ((k1.length : Nat) : Int)) rfl rfl rfl (blt_len Try.underlying22) rfl fun ac hs => ?_))
    refine lstep (wpO_plain rfl (op_bin hs none (v := .bool (decide (i < k1.length))) rfl rfl rfl rfl (fun _ => rfl) (bin_lssN (x := i) (y := k1.length)) rfl fun ac hs => ?_))
    refine wpList_nil ?_
    refine then_n ?_
    refine wp_cond_split (hs.ev rfl) (fun hc => ?_) (fun hc => ?_)
    · skip
      have hp3 := of_decide_eq_true hc
      have hlt := of_decide_eq_true hc
      obtain ⟨y, hy⟩ : ∃ q, k1[i]? = some q := ⟨_, List.getElem?_eq_getElem hlt⟩
      obtain ⟨z, hz⟩ : ∃ q, k2[i]? = some q := ⟨_, List.getElem?_eq_getElem (by omega)⟩
      obtain ⟨ay, cy, hvy⟩ := bysv_at (hs.all (k := 1) rfl rfl) hy
      obtain ⟨az, cz, hvz⟩ := bysv_at (hs.all (k := 3) rfl rfl) hz
      replace hs := hs.pick none 1 rfl hvy hy rfl
      replace hs := hs.pick none 3 rfl hvz hz rfl
      refine wp_skip ?_
      refine then_n ?_
      refine wp_seq ?_
      refine wp_block ?_
      refine wp_seq ?_
      replace hs : St 28 ⟨w0, [], [(true, .cel (.slice a1 k1.length c1) k1.length v1), (true, .bys v1 k1), (true, .cel (.slice a2 k2.length c2) k2.length v2), (true, .bys v2 k2), (true, .cel (.slice ay y.length cy) y.length (bcs y)), (true, .cel (.slice az z.length cz) z.length (bcs z))], Z, noX⟩ [(0, true, .slice a1 k1.length c1), (1, true, .slice a2 k2.length c2), (4, true, .bool false), (5, true, .int .i64 ((i : Nat) : Int))] [] ac _ := hs.re ⟨rfl, rfl, rfl, rfl, trivial⟩
      refine region_inv [([], [2, 3, 4, 10]), ([], [2, 3, 4, 10]), ([0, 1], [3, 4, 10]), ([0, 1, 2], [4, 10]), ([0, 1, 2, 3], [10]), ([], [7, 8, 9, 10]), ([], [7, 8, 9, 10]), ([5, 6], [8, 9, 10]), ([5, 6, 7], [9, 10]), ([5, 6, 7, 8], [10]), ([0, 1, 2, 3, 4, 5, 6, 7, 8, 9], [])] (fun L ac w => St 28 ⟨w0, [], [(true, .cel (.slice a1 k1.length c1) k1.length v1), (true, .bys v1 k1), (true, .cel (.slice a2 k2.length c2) k2.length v2), (true, .bys v2 k2), (true, .cel (.slice ay y.length cy) y.length (bcs y)), (true, .cel (.slice az z.length cz) z.length (bcs z))], Z, noX⟩ [(17, L 0, .slice a1 k1.length c1), (18, L 1, .int .i64 ((i : Nat) : Int)), (19, L 2, vidx (.slice a1 k1.length c1) i), (20, L 3, .slice ay y.length cy), (21, L 4, .string (txt y)), (22, L 5, .slice a2 k2.length c2), (23, L 6, .int .i64 ((i : Nat) : Int)), (24, L 7, vidx (.slice a2 k2.length c2) i), (25, L 8, .slice az z.length cz), (26, L 9, .string (txt z)), (27, L 10, .bool (!decide (y = z))), (0, true, .slice a1 k1.length c1), (1, true, .slice a2 k2.length c2), (4, true, .bool false), (5, true, .int .i64 ((i : Nat) : Int))] [] ac w) (by kernel_rfl) (by kernel_rfl) ?_ ?_ ?_
      · exact hs.drew.skip.skip.skip.skip.skip.skip.skip.skip.skip.skip.skip
      · refine ⟨?_, ?_, ?_, ?_, ?_, ?_, ?_, ?_, ?_, ?_, ?_, trivial⟩
        · intro L ac w hJ
          have hs := hJ
          refine wpO_plain rfl (op_move hs (some 0) rfl rfl rfl rfl fun ac hs => ?_)
          exact hs
        · intro L ac w hJ
          have hs := hJ
          refine wpO_plain rfl (op_move hs (some 1) rfl rfl rfl rfl fun ac hs => ?_)
          exact hs
        · intro L ac w hJ
          have hs := hJ
          refine wpO_plain rfl (op_idxC hs (some 2) 0 (j := i) rfl rfl rfl rfl rfl Try.underlying22 Try.sizeOf34 (show i < k1.length by omega) (off := i) (by omega) rfl fun ac hs => ?_)
          exact hs
        · intro L ac w hJ
          have hs := hJ
          refine wpO_plain rfl (op_loadC hs (some 3) 0 (u := .slice ay y.length cy) rfl rfl rfl rfl Try.isAgg34 Try.sizeOf34 (by decide) hvy rfl fun ac hs => ?_)
          exact hs
        · intro L ac w hJ
          have hs := hJ
          refine wpO_plain rfl (op_convBS hs (some 4) 4 rfl rfl rfl rfl rfl Try.underlying34 Try.underlying5 Try.underlying9 rfl fun ac hs => ?_)
          exact hs
        · intro L ac w hJ
          have hs := hJ
          refine wpO_plain rfl (op_move hs (some 5) rfl rfl rfl rfl fun ac hs => ?_)
          exact hs
        · intro L ac w hJ
          have hs := hJ
          refine wpO_plain rfl (op_move hs (some 6) rfl rfl rfl rfl fun ac hs => ?_)
          exact hs
        · intro L ac w hJ
          have hs := hJ
          refine wpO_plain rfl (op_idxC hs (some 7) 2 (j := i) rfl rfl rfl rfl rfl Try.underlying22 Try.sizeOf34 (show i < k2.length by omega) (off := i) (by omega) rfl fun ac hs => ?_)
          exact hs
        · intro L ac w hJ
          have hs := hJ
          refine wpO_plain rfl (op_loadC hs (some 8) 2 (u := .slice az z.length cz) rfl rfl rfl rfl Try.isAgg34 Try.sizeOf34 (by decide) hvz rfl fun ac hs => ?_)
          exact hs
        · intro L ac w hJ
          have hs := hJ
          refine wpO_plain rfl (op_convBS hs (some 9) 5 rfl rfl rfl rfl rfl Try.underlying34 Try.underlying5 Try.underlying9 rfl fun ac hs => ?_)
          exact hs
        · intro L ac w hJ
          have hs := hJ
          refine wpO_plain rfl (op_bin hs (some 10) (v := .bool (!decide (y = z))) rfl rfl rfl rfl (fun _ => rfl) (bin_neqT (by simp)) rfl fun ac hs => ?_)
          exact hs
      intro ac w hJ
      replace hs : St 28 ⟨w0, [], [(true, .cel (.slice a1 k1.length c1) k1.length v1), (true, .bys v1 k1), (true, .cel (.slice a2 k2.length c2) k2.length v2), (true, .bys v2 k2), (true, .cel (.slice ay y.length cy) y.length (bcs y)), (true, .cel (.slice az z.length cz) z.length (bcs z))], Z, noX⟩ [(17, true, .slice a1 k1.length c1), (18, true, .int .i64 ((i : Nat) : Int)), (19, true, vidx (.slice a1 k1.length c1) i), (20, true, .slice ay y.length cy), (21, true, .string (txt y)), (22, true, .slice a2 k2.length c2), (23, true, .int .i64 ((i : Nat) : Int)), (24, true, vidx (.slice a2 k2.length c2) i), (25, true, .slice az z.length cz), (26, true, .string (txt z)), (27, true, .bool (!decide (y = z))), (0, true, .slice a1 k1.length c1), (1, true, .slice a2 k2.length c2), (4, true, .bool false), (5, true, .int .i64 ((i : Nat) : Int))] [] ac w := hJ
      refine then_n ?_
      refine wp_cond_split (hs.ev rfl) (fun hc => ?_) (fun hc => ?_)
      · skip
        have hyz : ¬ y = z := by simpa using hc
        refine wp_seq ?_
        refine wp_region_lit ?_
        refine lstep (wpO_plain rfl (op_assign hs none rfl rfl rfl rfl fun ac hs => ?_))
        refine wpList_nil ?_
        refine then_n ?_
        refine wp_ret ?_
        refine blk_r ?_
        refine then_r ?_
        refine then_r ?_
        refine blk_r ?_
        refine then_r ?_
        exact bodyPost_ret (res1 rfl (rv_t hs rfl)) hs.defers ⟨(), by rw [← hq, decide_eq_false (same_no hy hz hyz)], hs.bel rfl, okl0⟩
      · skip
        have hyz : y = z := by simpa using hc
        refine wp_skip ?_
        refine blk_n ?_
        refine then_n ?_
        refine wp_region_lit ?_
        refine lstep (wpO_plain rfl (op_move hs none rfl rfl rfl rfl fun ac hs => ?_))
        refine lstep (wpO_plain rfl (op_bin hs none (v := .int .i64 ((i + 1 : Nat) : Int)) rfl rfl rfl rfl (fun _ => rfl) (bin_addN (x := i) (y := 1) (z := i + 1) rfl (show i + 1 < 9223372036854775808 by omega)) rfl fun ac hs => ?_))
        refine lstep (wpO_plain rfl (op_assign hs none rfl rfl rfl rfl fun ac hs => ?_))
        refine wpList_nil ?_
        refine then_n ?_
        replace hs := hs.selS [0, 1, 2, 3] rfl (by decide)
        exact ⟨_, ⟨(i + 1), rfl, (by omega), (same_go hy hz hyz hti), (hs.re (fs' := [(0, true, .slice a1 k1.length c1), (1, true, .slice a2 k2.length c2), (4, true, .bool false), (5, true, .int .i64 (((i + 1) : Nat) : Int))]) ⟨rfl, rfl, rfl, rfl, trivial⟩)⟩, (by omega)⟩
    · skip
      have hp4 := of_decide_eq_false hc
      have hge := of_decide_eq_false hc
      refine wp_exit ?_
      refine then_e ?_
      refine then_e ?_
      refine blk_e ?_
      refine then_n ?_
      refine wp_seq ?_
      refine wp_region_lit ?_
      refine lstep (wpO_plain rfl (op_assign hs none rfl rfl rfl rfl fun ac hs => ?_))
      refine wpList_nil ?_
      refine then_n ?_
      refine wp_ret ?_
      exact bodyPost_ret (res1 rfl (rv_t hs rfl)) hs.defers ⟨(), by rw [← hq, decide_eq_true (same_end hge hlen hti)], hs.bel rfl, okl0⟩
theorem small_c (am : Option Addr) (cm : Nat) (vs : List Value) (aa : Option Addr) (ca : Nat) (us : List Value) (ks js : BL) (q : Bool) (hq : smallS ks js = q) (w0 : World) (Z : Nat → Prop) (hV : CelV w0 Z (.slice am ks.length cm) ks.length vs) (hY : BysV w0 Z vs ks) (hU : CelV w0 Z (.slice aa js.length ca) js.length us) (hX : BysV w0 Z us js): Calls Try.prog 8 #[.agg #[.slice am ks.length cm, .slice aa js.length ca]] w0 fun e w' => Ret w0 Z (ρ := Unit) (fun r => .bool q) (fun r => []) e w' := by
  have hm1 := celv_max hV
  have hm2 := celv_max hU
  refine enterS (n := 43) (args := [.agg #[.slice am ks.length cm, .slice aa js.length ca]]) (S := [(true, .cel (.slice am ks.length cm) ks.length vs), (true, .bys vs ks), (true, .cel (.slice aa js.length ca) js.length us), (true, .bys us js)]) (Z := Z) Try.func8 rfl rfl (Nat.le_of_ble_eq_true rfl) (sokC hV (sokC hY (sokC hU (sokC hX sok0)))) rfl fun ac hs => ?_
  refine wp_seq ?_
  refine wp_region_lit ?_
  refine lstep (wpO_plain rfl (op_box hs none none (cs := [.slice am ks.length cm, .slice aa js.length ca]) rfl rfl rfl rfl rfl rfl fun g1 ac w hs => ?_))
  refine lstep (wpO_plain rfl (op_assign hs none rfl rfl rfl rfl fun ac hs => ?_))
  refine wpList_nil ?_
  refine then_n ?_
  refine wp_seq ?_
  refine wp_seq ?_
  by_cases hq2 : 110 < ks.length
  · skip
    refine wp_region_lit ?_
    refine lstep (wpO_plain rfl (op_fieldA hs none rfl rfl rfl Try.underlying24 rfl Try.sizeOf22 (by decide) rfl fun ac hs => ?_))
    refine lstep (wpO_plain rfl (op_load hs none 0 (v := .slice am ks.length cm) rfl rfl rfl rfl Try.isAgg22 Try.sizeOf22 rfl rfl fun ac hs => ?_))
    refine lstep (wpO_plain rfl (op_blt hs none (v := .int .i64 ((ks.length : Nat) : Int)) rfl rfl rfl (blt_len Try.underlying22) rfl fun ac hs => ?_))
    refine lstep (wpO_plain rfl (op_bin hs none (v := .bool true) rfl rfl rfl rfl (fun _ => rfl) (fun w => dT hq2 (bin_gtrN (x := ks.length) (y := 110) w)) rfl fun ac hs => ?_))
    refine lstep (wpO_plain rfl (op_move hs none rfl rfl rfl rfl fun ac hs => ?_))
    refine lstep (wpO_out hs none rfl rfl (.inl rfl) rfl rfl fun ac hs => ?_)
    refine lstep (wpO_out hs none rfl rfl (.inl rfl) rfl rfl fun ac hs => ?_)
    refine lstep (wpO_out hs none rfl rfl (.inl rfl) rfl rfl fun ac hs => ?_)
    refine lstep (wpO_out hs none rfl rfl (.inl rfl) rfl rfl fun ac hs => ?_)
    refine lstep (wpO_plain rfl (op_pickT hs none rfl rfl rfl rfl rfl fun ac hs => ?_))
    refine wpList_nil ?_
    refine then_n ?_
    refine wp_cond_true (hs.ev rfl) ?_
    refine wp_seq ?_
    replace hs : St 43 ⟨w0, [], [(true, .cel (.slice am ks.length cm) ks.length vs), (true, .bys vs ks), (true, .cel (.slice aa js.length ca) js.length us), (true, .bys us js)], Z, noX⟩ [(1, true, .pointer (some ⟨g1, 0, none⟩)), (2, true, .bool false)] [(true, g1, 24, [.slice am ks.length cm, .slice aa js.length ca])] ac _ := hs.re ⟨rfl, rfl, trivial⟩
    refine wp_region_lit ?_
    refine lstep (wpO_plain rfl (op_assign hs none rfl rfl rfl rfl fun ac hs => ?_))
    refine wpList_nil ?_
    refine then_n ?_
    refine wp_ret ?_
    refine then_r ?_
    exact bodyPost_ret (res1 rfl (rv_t hs rfl)) hs.defers ⟨(), by rw [← hq, small_len (.inl hq2)], hs.bel rfl, okl0⟩
  · skip
    refine wp_region_lit ?_
    refine lstep (wpO_plain rfl (op_fieldA hs none rfl rfl rfl Try.underlying24 rfl Try.sizeOf22 (by decide) rfl fun ac hs => ?_))
    refine lstep (wpO_plain rfl (op_load hs none 0 (v := .slice am ks.length cm) rfl rfl rfl rfl Try.isAgg22 Try.sizeOf22 rfl rfl fun ac hs => ?_))
    refine lstep (wpO_plain rfl (op_blt hs none (v := .int .i64 ((ks.length : Nat) : Int)) rfl rfl rfl (blt_len Try.underlying22) rfl fun ac hs => ?_))
    refine lstep (wpO_plain rfl (op_bin hs none (v := .bool false) rfl rfl rfl rfl (fun _ => rfl) (fun w => dF hq2 (bin_gtrN (x := ks.length) (y := 110) w)) rfl fun ac hs => ?_))
    refine lstep (wpO_plain rfl (op_move hs none rfl rfl rfl rfl fun ac hs => ?_))
    refine lstep (wpO_in hs rfl rfl rfl (op_fieldA hs none rfl rfl rfl Try.underlying24 rfl Try.sizeOf22 (by decide) rfl fun ac hs => ?_))
    refine lstep (wpO_in hs rfl rfl rfl (op_load hs none 0 (v := .slice aa js.length ca) rfl rfl rfl rfl Try.isAgg22 Try.sizeOf22 rfl rfl fun ac hs => ?_))
    refine lstep (wpO_in hs rfl rfl rfl (op_blt hs none (v := .int .i64 ((js.length : Nat) : Int)) rfl rfl rfl (blt_len Try.underlying22) rfl fun ac hs => ?_))
    refine lstep (wpO_in hs rfl rfl rfl (op_bin hs none (v := .bool (decide (110 < js.length))) rfl rfl rfl rfl (fun _ => rfl) (bin_gtrN (x := js.length) (y := 110)) rfl fun ac hs => ?_))
    refine lstep (wpO_plain rfl (op_pickF hs none rfl rfl rfl rfl rfl fun ac hs => ?_))
    refine wpList_nil ?_
    refine then_n ?_
    refine wp_cond_split (hs.ev rfl) (fun hc => ?_) (fun hc => ?_)
    · skip
      have hp3 := of_decide_eq_true hc
      refine wp_seq ?_
      replace hs : St 43 ⟨w0, [], [(true, .cel (.slice am ks.length cm) ks.length vs), (true, .bys vs ks), (true, .cel (.slice aa js.length ca) js.length us), (true, .bys us js)], Z, noX⟩ [(1, true, .pointer (some ⟨g1, 0, none⟩)), (2, true, .bool false)] [(true, g1, 24, [.slice am ks.length cm, .slice aa js.length ca])] ac _ := hs.re ⟨rfl, rfl, trivial⟩
      refine wp_region_lit ?_
      refine lstep (wpO_plain rfl (op_assign hs none rfl rfl rfl rfl fun ac hs => ?_))
      refine wpList_nil ?_
      refine then_n ?_
      refine wp_ret ?_
      refine then_r ?_
      exact bodyPost_ret (res1 rfl (rv_t hs rfl)) hs.defers ⟨(), by rw [← hq, small_len (.inr hp3)], hs.bel rfl, okl0⟩
    · skip
      have hp4 := of_decide_eq_false hc
      refine wp_skip ?_
      refine then_n ?_
      refine wp_seq ?_
      refine wp_seq ?_
      replace hs : St 43 ⟨w0, [], [(true, .cel (.slice am ks.length cm) ks.length vs), (true, .bys vs ks), (true, .cel (.slice aa js.length ca) js.length us), (true, .bys us js)], Z, noX⟩ [(1, true, .pointer (some ⟨g1, 0, none⟩)), (2, true, .bool false)] [(true, g1, 24, [.slice am ks.length cm, .slice aa js.length ca])] ac _ := hs.re ⟨rfl, rfl, trivial⟩
      refine wp_region_lit ?_
      refine lstep (wpO_plain rfl (op_assign hs none rfl rfl rfl rfl fun ac hs => ?_))
      refine wpList_nil ?_
      refine then_n ?_
      refine wp_block ?_
      refine wp_loop_m (fun μ ac w => ∃ (i : Nat), (ks.length - i) = μ ∧ (i ≤ ks.length) ∧ (allB 600 (ks.take i) = true) ∧ St 43 ⟨w0, [], [(true, .cel (.slice am ks.length cm) ks.length vs), (true, .bys vs ks), (true, .cel (.slice aa js.length ca) js.length us), (true, .bys us js)], Z, noX⟩ [(1, true, .pointer (some ⟨g1, 0, none⟩)), (2, true, .bool false), (3, true, .int .i64 ((i : Nat) : Int))] [(true, g1, 24, [.slice am ks.length cm, .slice aa js.length ca])] ac w) ?_ ?_
      · exact ⟨_, 0, rfl, (by omega), rfl, (hs.re (fs' := [(1, true, .pointer (some ⟨g1, 0, none⟩)), (2, true, .bool false), (3, true, .int .i64 ((0 : Nat) : Int))]) ⟨rfl, rfl, rfl, trivial⟩)⟩
      intro μ ac w ⟨i, hμ, hi, hti, hs⟩
      refine wp_seq ?_
      refine wp_seq ?_
      refine wp_region_lit ?_
      refine lstep (wpO_plain rfl (op_move hs none rfl rfl rfl rfl fun ac hs => ?_))
      refine lstep (wpO_plain rfl (op_fieldA hs none rfl rfl rfl Try.underlying24 rfl Try.sizeOf22 (by decide) rfl fun ac hs => ?_))
      refine lstep (wpO_plain rfl (op_load hs none 0 (v := .slice am ks.length cm) rfl rfl rfl rfl Try.isAgg22 Try.sizeOf22 rfl rfl fun ac hs => ?_))
      refine lstep (wpO_plain rfl (op_blt hs none (v := .int .i64 ((ks.length : Nat) : Int)) rfl rfl rfl (blt_len Try.underlying22) rfl fun ac hs => ?_))
      refine lstep (wpO_plain rfl (op_bin hs none (v := .bool (decide (i < ks.length))) rfl rfl rfl rfl (fun _ => rfl) (bin_lssN (x := i) (y := ks.length)) rfl fun ac hs => ?_))
      refine wpList_nil ?_
      refine then_n ?_
      refine wp_cond_split (hs.ev rfl) (fun hc => ?_) (fun hc => ?_)
      · skip
        have hp5 := of_decide_eq_true hc
        have hlt := of_decide_eq_true hc
        obtain ⟨y, hy⟩ : ∃ q, ks[i]? = some q := ⟨_, List.getElem?_eq_getElem hlt⟩
        obtain ⟨ay, cy, hvy⟩ := bysv_at (hs.all (k := 1) rfl rfl) hy
        refine wp_skip ?_
        refine then_n ?_
        refine wp_seq ?_
        refine wp_block ?_
        refine wp_seq ?_
        refine wp_region_lit ?_
        refine lstep (wpO_plain rfl (op_fieldA hs none rfl rfl rfl Try.underlying24 rfl Try.sizeOf22 (by decide) rfl fun ac hs => ?_))
        refine lstep (wpO_plain rfl (op_load hs none 0 (v := .slice am ks.length cm) rfl rfl rfl rfl Try.isAgg22 Try.sizeOf22 rfl rfl fun ac hs => ?_))
        refine lstep (wpO_plain rfl (op_move hs none rfl rfl rfl rfl fun ac hs => ?_))
        refine lstep (wpO_plain rfl (op_idxC hs none 0 (j := i) rfl rfl rfl rfl rfl Try.underlying22 Try.sizeOf34 (show i < ks.length by omega) (off := i) (by omega) rfl fun ac hs => ?_))
        refine lstep (wpO_plain rfl (op_loadC hs none 0 (u := .slice ay y.length cy) rfl rfl rfl rfl Try.isAgg34 Try.sizeOf34 (by decide) hvy rfl fun ac hs => ?_))
        refine lstep (wpO_plain rfl (op_blt hs none (v := .int .i64 ((y.length : Nat) : Int)) rfl rfl rfl (blt_len Try.underlying34) rfl fun ac hs => ?_))
        refine lstep (wpO_plain rfl (op_bin hs none (v := .bool (decide (600 < y.length))) rfl rfl rfl rfl (fun _ => rfl) (bin_gtrN (x := y.length) (y := 600)) rfl fun ac hs => ?_))
        refine wpList_nil ?_
        refine then_n ?_
        refine wp_cond_split (hs.ev rfl) (fun hc => ?_) (fun hc => ?_)
        · skip
          have hp6 := of_decide_eq_true hc
          refine wp_seq ?_
          replace hs : St 43 ⟨w0, [], [(true, .cel (.slice am ks.length cm) ks.length vs), (true, .bys vs ks), (true, .cel (.slice aa js.length ca) js.length us), (true, .bys us js)], Z, noX⟩ [(1, true, .pointer (some ⟨g1, 0, none⟩)), (2, true, .bool false), (3, true, .int .i64 ((i : Nat) : Int))] [(true, g1, 24, [.slice am ks.length cm, .slice aa js.length ca])] ac _ := hs.re ⟨rfl, rfl, rfl, trivial⟩
          refine wp_region_lit ?_
          refine lstep (wpO_plain rfl (op_assign hs none rfl rfl rfl rfl fun ac hs => ?_))
          refine wpList_nil ?_
          refine then_n ?_
          refine wp_ret ?_
          refine blk_r ?_
          refine then_r ?_
          refine then_r ?_
          refine blk_r ?_
          refine then_r ?_
          exact bodyPost_ret (res1 rfl (rv_t hs rfl)) hs.defers ⟨(), by rw [← hq, small_no1 (allB_no hy hp6)], hs.bel rfl, okl0⟩
        · skip
          have hp7 := of_decide_eq_false hc
          refine wp_skip ?_
          refine blk_n ?_
          refine then_n ?_
          replace hs : St 43 ⟨w0, [], [(true, .cel (.slice am ks.length cm) ks.length vs), (true, .bys vs ks), (true, .cel (.slice aa js.length ca) js.length us), (true, .bys us js)], Z, noX⟩ [(1, true, .pointer (some ⟨g1, 0, none⟩)), (2, true, .bool false), (3, true, .int .i64 ((i : Nat) : Int))] [(true, g1, 24, [.slice am ks.length cm, .slice aa js.length ca])] ac _ := hs.re ⟨rfl, rfl, rfl, trivial⟩
          refine wp_region_lit ?_
          refine lstep (wpO_plain rfl (op_move hs none rfl rfl rfl rfl fun ac hs => ?_))
          refine lstep (wpO_plain rfl (op_bin hs none (v := .int .i64 ((i + 1 : Nat) : Int)) rfl rfl rfl rfl (fun _ => rfl) (bin_addN (x := i) (y := 1) (z := i + 1) rfl (show i + 1 < 9223372036854775808 by omega)) rfl fun ac hs => ?_))
          refine lstep (wpO_plain rfl (op_assign hs none rfl rfl rfl rfl fun ac hs => ?_))
          refine wpList_nil ?_
          refine then_n ?_
          exact ⟨_, ⟨(i + 1), rfl, (by omega), (allB_go hy hp7 hti), (hs.re (fs' := [(1, true, .pointer (some ⟨g1, 0, none⟩)), (2, true, .bool false), (3, true, .int .i64 (((i + 1) : Nat) : Int))]) ⟨rfl, rfl, rfl, trivial⟩)⟩, (by omega)⟩
      · skip
        have hp8 := of_decide_eq_false hc
        refine wp_exit ?_
        refine then_e ?_
        refine then_e ?_
        refine blk_e ?_
        refine then_n ?_
        refine wp_seq ?_
        refine wp_seq ?_
        refine wp_region_lit ?_
        refine lstep (wpO_plain rfl (op_assign hs none rfl rfl rfl rfl fun ac hs => ?_))
        refine wpList_nil ?_
        refine then_n ?_
        refine wp_block ?_
        refine wp_loop_m (fun μ ac w => ∃ (i : Nat), (js.length - i) = μ ∧ (i ≤ js.length) ∧ (allB 600 (js.take i) = true) ∧ (allB 600 ks = true) ∧ St 43 ⟨w0, [], [(true, .cel (.slice am ks.length cm) ks.length vs), (true, .bys vs ks), (true, .cel (.slice aa js.length ca) js.length us), (true, .bys us js)], Z, noX⟩ [(1, true, .pointer (some ⟨g1, 0, none⟩)), (2, true, .bool false), (4, true, .int .i64 ((i : Nat) : Int))] [(true, g1, 24, [.slice am ks.length cm, .slice aa js.length ca])] ac w) ?_ ?_
        · exact ⟨_, 0, rfl, (by omega), rfl, (allB_end hp8 hti), (hs.re (fs' := [(1, true, .pointer (some ⟨g1, 0, none⟩)), (2, true, .bool false), (4, true, .int .i64 ((0 : Nat) : Int))]) ⟨rfl, rfl, rfl, trivial⟩)⟩
        intro μ ac w ⟨i, hμ, hi, hti, hall, hs⟩
        refine wp_seq ?_
        refine wp_seq ?_
        refine wp_region_lit ?_
        refine lstep (wpO_plain rfl (op_move hs none rfl rfl rfl rfl fun ac hs => ?_))
        refine lstep (wpO_plain rfl (op_fieldA hs none rfl rfl rfl Try.underlying24 rfl Try.sizeOf22 (by decide) rfl fun ac hs => ?_))
        refine lstep (wpO_plain rfl (op_load hs none 0 (v := .slice aa js.length ca) rfl rfl rfl rfl Try.isAgg22 Try.sizeOf22 rfl rfl fun ac hs => ?_))
        refine lstep (wpO_plain rfl (op_blt hs none (v := .int .i64 ((js.length : Nat) : Int)) rfl rfl rfl (blt_len Try.underlying22) rfl fun ac hs => ?_))
        refine lstep (wpO_plain rfl (op_bin hs none (v := .bool (decide (i < js.length))) rfl rfl rfl rfl (fun _ => rfl) (bin_lssN (x := i) (y := js.length)) rfl fun ac hs => ?_))
        refine wpList_nil ?_
        refine then_n ?_
        refine wp_cond_split (hs.ev rfl) (fun hc => ?_) (fun hc => ?_)
        · skip
          have hp9 := of_decide_eq_true hc
          have hlt := of_decide_eq_true hc
          obtain ⟨y, hy⟩ : ∃ q, js[i]? = some q := ⟨_, List.getElem?_eq_getElem hlt⟩
          obtain ⟨ay, cy, hvy⟩ := bysv_at (hs.all (k := 3) rfl rfl) hy
          refine wp_skip ?_
          refine then_n ?_
          refine wp_seq ?_
          refine wp_block ?_
          refine wp_seq ?_
          refine wp_region_lit ?_
          refine lstep (wpO_plain rfl (op_fieldA hs none rfl rfl rfl Try.underlying24 rfl Try.sizeOf22 (by decide) rfl fun ac hs => ?_))
          refine lstep (wpO_plain rfl (op_load hs none 0 (v := .slice aa js.length ca) rfl rfl rfl rfl Try.isAgg22 Try.sizeOf22 rfl rfl fun ac hs => ?_))
          refine lstep (wpO_plain rfl (op_move hs none rfl rfl rfl rfl fun ac hs => ?_))
          refine lstep (wpO_plain rfl (op_idxC hs none 2 (j := i) rfl rfl rfl rfl rfl Try.underlying22 Try.sizeOf34 (show i < js.length by omega) (off := i) (by omega) rfl fun ac hs => ?_))
          refine lstep (wpO_plain rfl (op_loadC hs none 2 (u := .slice ay y.length cy) rfl rfl rfl rfl Try.isAgg34 Try.sizeOf34 (by decide) hvy rfl fun ac hs => ?_))
          refine lstep (wpO_plain rfl (op_blt hs none (v := .int .i64 ((y.length : Nat) : Int)) rfl rfl rfl (blt_len Try.underlying34) rfl fun ac hs => ?_))
          refine lstep (wpO_plain rfl (op_bin hs none (v := .bool (decide (600 < y.length))) rfl rfl rfl rfl (fun _ => rfl) (bin_gtrN (x := y.length) (y := 600)) rfl fun ac hs => ?_))
          refine wpList_nil ?_
          refine then_n ?_
          refine wp_cond_split (hs.ev rfl) (fun hc => ?_) (fun hc => ?_)
          · skip
            have hp10 := of_decide_eq_true hc
            refine wp_seq ?_
            replace hs : St 43 ⟨w0, [], [(true, .cel (.slice am ks.length cm) ks.length vs), (true, .bys vs ks), (true, .cel (.slice aa js.length ca) js.length us), (true, .bys us js)], Z, noX⟩ [(1, true, .pointer (some ⟨g1, 0, none⟩)), (2, true, .bool false), (4, true, .int .i64 ((i : Nat) : Int))] [(true, g1, 24, [.slice am ks.length cm, .slice aa js.length ca])] ac _ := hs.re ⟨rfl, rfl, rfl, trivial⟩
            refine wp_region_lit ?_
            refine lstep (wpO_plain rfl (op_assign hs none rfl rfl rfl rfl fun ac hs => ?_))
            refine wpList_nil ?_
            refine then_n ?_
            refine wp_ret ?_
            refine blk_r ?_
            refine then_r ?_
            refine then_r ?_
            refine blk_r ?_
            refine then_r ?_
            exact bodyPost_ret (res1 rfl (rv_t hs rfl)) hs.defers ⟨(), by rw [← hq, small_no2 (allB_no hy hp10)], hs.bel rfl, okl0⟩
          · skip
            have hp11 := of_decide_eq_false hc
            refine wp_skip ?_
            refine blk_n ?_
            refine then_n ?_
            replace hs : St 43 ⟨w0, [], [(true, .cel (.slice am ks.length cm) ks.length vs), (true, .bys vs ks), (true, .cel (.slice aa js.length ca) js.length us), (true, .bys us js)], Z, noX⟩ [(1, true, .pointer (some ⟨g1, 0, none⟩)), (2, true, .bool false), (4, true, .int .i64 ((i : Nat) : Int))] [(true, g1, 24, [.slice am ks.length cm, .slice aa js.length ca])] ac _ := hs.re ⟨rfl, rfl, rfl, trivial⟩
            refine wp_region_lit ?_
            refine lstep (wpO_plain rfl (op_move hs none rfl rfl rfl rfl fun ac hs => ?_))
            refine lstep (wpO_plain rfl (op_bin hs none (v := .int .i64 ((i + 1 : Nat) : Int)) rfl rfl rfl rfl (fun _ => rfl) (bin_addN (x := i) (y := 1) (z := i + 1) rfl (show i + 1 < 9223372036854775808 by omega)) rfl fun ac hs => ?_))
            refine lstep (wpO_plain rfl (op_assign hs none rfl rfl rfl rfl fun ac hs => ?_))
            refine wpList_nil ?_
            refine then_n ?_
            exact ⟨_, ⟨(i + 1), rfl, (by omega), (allB_go hy hp11 hti), hall, (hs.re (fs' := [(1, true, .pointer (some ⟨g1, 0, none⟩)), (2, true, .bool false), (4, true, .int .i64 (((i + 1) : Nat) : Int))]) ⟨rfl, rfl, rfl, trivial⟩)⟩, (by omega)⟩
        · skip
          have hp12 := of_decide_eq_false hc
          refine wp_exit ?_
          refine then_e ?_
          refine then_e ?_
          refine blk_e ?_
          refine then_n ?_
          refine wp_seq ?_
          refine wp_region_lit ?_
          refine lstep (wpO_plain rfl (op_assign hs none rfl rfl rfl rfl fun ac hs => ?_))
          refine wpList_nil ?_
          refine then_n ?_
          refine wp_ret ?_
          exact bodyPost_ret (res1 rfl (rv_t hs rfl)) hs.defers ⟨(), by rw [← hq, small_yes hq2 hp4 hall (allB_end hp12 hti)], hs.bel rfl, okl0⟩
theorem alive_c  (w0 : World) (Z : Nat → Prop) : Calls Try.prog 9 #[] w0 fun e w' => Ret w0 Z (ρ := Unit) (fun r => .bool true) (fun r => []) e w' := by
  refine enterS (n := 66) (args := []) (S := []) (Z := Z) Try.func9 rfl rfl (Nat.le_of_ble_eq_true rfl) sok0 rfl fun ac hs => ?_
  refine wp_seq ?_
  refine wp_region_lit ?_
  refine lstep (wpO_plain rfl (op_assign hs none rfl rfl rfl rfl fun ac hs => ?_))
  refine wpList_nil ?_
  refine then_n ?_
  refine wp_seq ?_
  refine wp_region_lit ?_
  refine lstep (wpO_plain rfl (op_bsO hs none none (qs := [(0, .int .u8 2)]) (cs := [.int .u8 2]) (cs' := bcs [UInt8.ofNat 2]) rfl rfl rfl rfl Try.underlying34 inf_u8_5 (by decide) (by decide) (fill_one _ _ rfl ) rfl (bcs_cons (by decide) rfl) rfl rfl fun ad2 ac w hs => ?_))
  refine lstep (wpO_plain rfl (op_bsO hs none none (qs := [(0, .int .u8 3)]) (cs := [.int .u8 3]) (cs' := bcs [UInt8.ofNat 3]) rfl rfl rfl rfl Try.underlying34 inf_u8_5 (by decide) (by decide) (fill_one _ _ rfl ) rfl (bcs_cons (by decide) rfl) rfl rfl fun ad4 ac w hs => ?_))
  refine lstep (wpO_plain rfl (op_bsO hs none none (qs := [(0, .slice ad2 1 1), (1, .slice ad4 1 1)]) (cs := [.slice ad2 1 1, .slice ad4 1 1]) rfl rfl rfl rfl Try.underlying22 inf_slice_34 (by decide) (by decide) (fill_two _ _ _ rfl rfl) rfl rfl rfl rfl fun ad6 ac w hs => ?_))
  refine lstep (wpO_plain rfl (op_build hs none (qs := [(0, .slice ad6 2 2)]) (v := .agg #[.slice ad6 2 2, .slice none 0 0]) rfl rfl rfl rfl (fun _ => by kernel_rfl) rfl fun ac hs => ?_))
  replace hs := hs.freeze 2 rfl
  replace hs := hs.nilBys none rfl
  replace hs := hs.freeze 0 rfl
  replace hs := hs.snocBys (l := [UInt8.ofNat 2]) (ls' := [[UInt8.ofNat 2]]) 3 0 rfl rfl rfl
  replace hs := hs.freeze 1 rfl
  replace hs := hs.snocBys (l := [UInt8.ofNat 3]) (ls' := [[UInt8.ofNat 2], [UInt8.ofNat 3]]) 3 1 rfl rfl rfl
  replace hs := hs.bysEq 3 (vs' := [.slice ad2 1 1, .slice ad4 1 1]) (ls' := [[UInt8.ofNat 2], [UInt8.ofNat 3]]) rfl rfl rfl
  replace hs : St 66 ⟨w0, [], [(true, .cel (.slice ad2 1 1) 1 (bcs ([UInt8.ofNat 2]))), (true, .cel (.slice ad4 1 1) 1 (bcs ([UInt8.ofNat 3]))), (true, .cel (.slice ad6 2 2) 2 ([.slice ad2 1 1, .slice ad4 1 1])), (true, .bys ([.slice ad2 1 1, .slice ad4 1 1]) ([[UInt8.ofNat 2], [UInt8.ofNat 3]]))], Z, noX⟩ [(0, true, .bool false), (8, true, .slice ad2 1 1), (9, true, .slice ad4 1 1), (10, true, .slice ad6 2 2), (11, true, .agg #[.slice ad6 2 2, .slice none 0 0])] [] ac _ := hs.re ⟨rfl, rfl, rfl, rfl, rfl, trivial⟩
  replace hs := hs.nilCel none rfl
  replace hs := hs.nilBys none rfl
  replace hs : St 66 ⟨w0, [], [(true, .cel (.slice ad2 1 1) 1 (bcs ([UInt8.ofNat 2]))), (true, .cel (.slice ad4 1 1) 1 (bcs ([UInt8.ofNat 3]))), (true, .cel (.slice ad6 2 2) 2 ([.slice ad2 1 1, .slice ad4 1 1])), (true, .bys ([.slice ad2 1 1, .slice ad4 1 1]) ([[UInt8.ofNat 2], [UInt8.ofNat 3]])), (true, .cel (.slice none 0 0) 0 ([])), (true, .bys ([]) ([]))], Z, noX⟩ [(0, true, .bool false), (8, true, .slice ad2 1 1), (9, true, .slice ad4 1 1), (10, true, .slice ad6 2 2), (11, true, .agg #[.slice ad6 2 2, .slice none 0 0])] [] ac _ := hs.re ⟨rfl, rfl, rfl, rfl, rfl, trivial⟩
  refine lstep (wpO_plain rfl (op_callX (F := 11) (ρ := M2) hs none none [] [2, 3, 4, 5] (v := fun r => .tuple #[.agg #[.slice r.a (([[UInt8.ofNat 5]]).length) r.c, .slice r.b (([]).length) r.d], .int .i64 0]) (S1 := [(true, .cel (.slice ad6 2 2) 2 ([.slice ad2 1 1, .slice ad4 1 1])), (true, .bys ([.slice ad2 1 1, .slice ad4 1 1]) ([[UInt8.ofNat 2], [UInt8.ofNat 3]])), (true, .cel (.slice none 0 0) 0 ([])), (true, .bys ([]) ([]))]) (bs1 := []) (E := fun r => [(true, .cel (.slice ad6 2 2) 2 ([.slice ad2 1 1, .slice ad4 1 1])), (true, .bys ([.slice ad2 1 1, .slice ad4 1 1]) ([[UInt8.ofNat 2], [UInt8.ofNat 3]])), (true, .cel (.slice none 0 0) 0 ([])), (true, .bys ([]) ([])), (true, .own (.slice r.a (([[UInt8.ofNat 5]]).length) r.c) 34 1 (([[UInt8.ofNat 5]]).length) r.vs), (true, .own (.slice r.b (([]).length) r.d) 34 1 (([]).length) r.us), (true, .bysO r.G (r.vs ++ r.us ++ ([])) (([[UInt8.ofNat 5]]) ++ ([]) ++ ([])))]) (E1 := fun r => [(true, .cel (.slice ad6 2 2) 2 ([.slice ad2 1 1, .slice ad4 1 1])), (true, .bys ([.slice ad2 1 1, .slice ad4 1 1]) ([[UInt8.ofNat 2], [UInt8.ofNat 3]])), (true, .cel (.slice none 0 0) 0 ([])), (true, .bys ([]) ([]))]) (E2 := fun r => [.own (.slice r.a (([[UInt8.ofNat 5]]).length) r.c) 34 1 (([[UInt8.ofNat 5]]).length) r.vs, .own (.slice r.b (([]).length) r.d) 34 1 (([]).length) r.us, .bysO r.G (r.vs ++ r.us ++ ([])) (([[UInt8.ofNat 5]]) ++ ([]) ++ ([]))]) (bfA := fun r => []) (bf := fun r => []) (bf2 := fun r => []) rfl rfl rfl rfl rfl (Try.call11 _) rfl rfl (by decide) (by decide) (fun Z X hm => do_c ad6 2 ([.slice ad2 1 1, .slice ad4 1 1]) none 0 ([]) ([[UInt8.ofNat 2], [UInt8.ofNat 3]]) ([]) 147 ([[UInt8.ofNat 5]]) ([]) 0 (show OkN 1000 [[UInt8.ofNat 2], [UInt8.ofNat 3]] from ⟨by decide, by decide⟩) OkN.nil do_147 _ _ _ hm) (fun _ => rfl) (fun _ => rfl) (fun _ => rfl) (fun _ => rfl) (fun _ => rfl) rfl fun ⟨ad10, cp11, vs12, ad13, cp14, us15, G16⟩ ac w hs => ?_))
  refine lstep (wpO_plain rfl (op_move hs none rfl rfl rfl rfl fun ac hs => ?_))
  refine lstep (wpO_plain rfl (op_extract hs none rfl rfl rfl rfl rfl fun ac hs => ?_))
  refine lstep (wpO_plain rfl (op_extract hs none rfl rfl rfl rfl rfl fun ac hs => ?_))
  refine lstep (wpO_plain rfl (op_alloc hs none none (cs := [.slice none 0 0, .slice none 0 0]) rfl rfl Try.zeroValue24 (by kernel_rfl) rfl rfl fun g17 ac w hs => ?_))
  refine lstep (wpO_plain rfl (op_store hs 0 (vs := [.slice ad10 (([[UInt8.ofNat 5]]).length) cp11, .slice ad13 (([]).length) cp14]) rfl rfl rfl rfl rfl Try.sizeOf24 rfl rfl rfl rfl rfl fun w hs => ?_))
  refine lstep (wpO_plain rfl (op_assign hs none rfl rfl rfl rfl fun ac hs => ?_))
  refine wpList_nil ?_
  replace hs : St 66 ⟨w0, [], [(true, .cel (.slice ad2 1 1) 1 (bcs ([UInt8.ofNat 2]))), (true, .cel (.slice ad4 1 1) 1 (bcs ([UInt8.ofNat 3]))), (true, .cel (.slice ad6 2 2) 2 ([.slice ad2 1 1, .slice ad4 1 1])), (true, .bys ([.slice ad2 1 1, .slice ad4 1 1]) ([[UInt8.ofNat 2], [UInt8.ofNat 3]])), (true, .cel (.slice none 0 0) 0 ([])), (true, .bys ([]) ([])), (true, .own (.slice ad10 (([[UInt8.ofNat 5]]).length) cp11) 34 1 (([[UInt8.ofNat 5]]).length) vs12), (true, .own (.slice ad13 (([]).length) cp14) 34 1 (([]).length) us15), (true, .bysO G16 (vs12 ++ us15 ++ ([])) (([[UInt8.ofNat 5]]) ++ ([]) ++ ([])))], Z, noX⟩ [(0, true, .bool false), (8, true, .slice ad2 1 1), (9, true, .slice ad4 1 1), (10, true, .slice ad6 2 2), (11, true, .agg #[.slice ad6 2 2, .slice none 0 0]), (12, true, .tuple #[.agg #[.slice ad10 (([[UInt8.ofNat 5]]).length) cp11, .slice ad13 (([]).length) cp14], .int .i64 0]), (7, true, .tuple #[.agg #[.slice ad10 (([[UInt8.ofNat 5]]).length) cp11, .slice ad13 (([]).length) cp14], .int .i64 0]), (13, true, .agg #[.slice ad10 (([[UInt8.ofNat 5]]).length) cp11, .slice ad13 (([]).length) cp14]), (14, true, .int .i64 0), (1, true, .pointer (some ⟨g17, 0, none⟩)), (2, true, .int .i64 0)] [(true, g17, 24, [.slice ad10 (([[UInt8.ofNat 5]]).length) cp11, .slice ad13 (([]).length) cp14])] ac _ := hs.re ⟨rfl, rfl, rfl, rfl, rfl, rfl, rfl, rfl, rfl, rfl, rfl, trivial⟩
  have hl18 := hs.ownLen 6 rfl
  replace hs := hs.freeze 6 rfl
  have hl19 := hs.ownLen 7 rfl
  replace hs := hs.freeze 7 rfl
  replace hs := hs.freezeB 8 rfl
  replace hs := hs.splitY 8 rfl hl18 hl19
  replace hs : St 66 ⟨w0, [], [(true, .cel (.slice ad2 1 1) 1 (bcs ([UInt8.ofNat 2]))), (true, .cel (.slice ad4 1 1) 1 (bcs ([UInt8.ofNat 3]))), (true, .cel (.slice ad6 2 2) 2 ([.slice ad2 1 1, .slice ad4 1 1])), (true, .bys ([.slice ad2 1 1, .slice ad4 1 1]) ([[UInt8.ofNat 2], [UInt8.ofNat 3]])), (true, .cel (.slice none 0 0) 0 ([])), (true, .bys ([]) ([])), (true, .cel (.slice ad10 (([[UInt8.ofNat 5]]).length) cp11) (([[UInt8.ofNat 5]]).length) vs12), (true, .cel (.slice ad13 (([]).length) cp14) (([]).length) us15), (true, .bys (vs12 ++ us15 ++ ([])) (([[UInt8.ofNat 5]]) ++ ([]) ++ ([]))), (true, .bys vs12 ([[UInt8.ofNat 5]])), (true, .bys us15 ([]))], Z, noX⟩ [(0, true, .bool false), (8, true, .slice ad2 1 1), (9, true, .slice ad4 1 1), (10, true, .slice ad6 2 2), (11, true, .agg #[.slice ad6 2 2, .slice none 0 0]), (12, true, .tuple #[.agg #[.slice ad10 (([[UInt8.ofNat 5]]).length) cp11, .slice ad13 (([]).length) cp14], .int .i64 0]), (7, true, .tuple #[.agg #[.slice ad10 (([[UInt8.ofNat 5]]).length) cp11, .slice ad13 (([]).length) cp14], .int .i64 0]), (13, true, .agg #[.slice ad10 (([[UInt8.ofNat 5]]).length) cp11, .slice ad13 (([]).length) cp14]), (14, true, .int .i64 0), (1, true, .pointer (some ⟨g17, 0, none⟩)), (2, true, .int .i64 0)] [(true, g17, 24, [.slice ad10 (([[UInt8.ofNat 5]]).length) cp11, .slice ad13 (([]).length) cp14])] ac _ := hs.re ⟨rfl, rfl, rfl, rfl, rfl, rfl, rfl, rfl, rfl, rfl, rfl, trivial⟩
  obtain ⟨al20, cl21, hv22⟩ := bysv_at (l := [UInt8.ofNat 5]) (i := 0) (hs.all (k := 9) rfl rfl) rfl
  replace hs := hs.pick none 9 (i := 0) (l := [UInt8.ofNat 5]) rfl hv22 rfl rfl
  refine then_n ?_
  refine wp_seq ?_
  refine wp_region_lit ?_
  refine lstep (wpO_plain rfl (op_build hs none (qs := []) (v := .agg #[.slice none 0 0, .slice none 0 0]) rfl rfl rfl rfl (fun _ => by kernel_rfl) rfl fun ac hs => ?_))
  replace hs := hs.nilCel none rfl
  replace hs := hs.nilBys none rfl
  replace hs : St 66 ⟨w0, [], [(true, .cel (.slice ad2 1 1) 1 (bcs ([UInt8.ofNat 2]))), (true, .cel (.slice ad4 1 1) 1 (bcs ([UInt8.ofNat 3]))), (true, .cel (.slice ad6 2 2) 2 ([.slice ad2 1 1, .slice ad4 1 1])), (true, .bys ([.slice ad2 1 1, .slice ad4 1 1]) ([[UInt8.ofNat 2], [UInt8.ofNat 3]])), (true, .cel (.slice none 0 0) 0 ([])), (true, .bys ([]) ([])), (true, .cel (.slice ad10 (([[UInt8.ofNat 5]]).length) cp11) (([[UInt8.ofNat 5]]).length) vs12), (true, .cel (.slice ad13 (([]).length) cp14) (([]).length) us15), (true, .bys (vs12 ++ us15 ++ ([])) (([[UInt8.ofNat 5]]) ++ ([]) ++ ([]))), (true, .bys vs12 ([[UInt8.ofNat 5]])), (true, .bys us15 ([])), (true, .cel (.slice al20 (([UInt8.ofNat 5]).length) cl21) (([UInt8.ofNat 5]).length) (bcs ([UInt8.ofNat 5]))), (true, .cel (.slice none 0 0) 0 ([])), (true, .bys ([]) ([]))], Z, noX⟩ [(0, true, .bool false), (8, true, .slice ad2 1 1), (9, true, .slice ad4 1 1), (10, true, .slice ad6 2 2), (11, true, .agg #[.slice ad6 2 2, .slice none 0 0]), (12, true, .tuple #[.agg #[.slice ad10 (([[UInt8.ofNat 5]]).length) cp11, .slice ad13 (([]).length) cp14], .int .i64 0]), (7, true, .tuple #[.agg #[.slice ad10 (([[UInt8.ofNat 5]]).length) cp11, .slice ad13 (([]).length) cp14], .int .i64 0]), (13, true, .agg #[.slice ad10 (([[UInt8.ofNat 5]]).length) cp11, .slice ad13 (([]).length) cp14]), (14, true, .int .i64 0), (1, true, .pointer (some ⟨g17, 0, none⟩)), (2, true, .int .i64 0), (16, true, .agg #[.slice none 0 0, .slice none 0 0])] [(true, g17, 24, [.slice ad10 (([[UInt8.ofNat 5]]).length) cp11, .slice ad13 (([]).length) cp14])] ac _ := hs.re ⟨rfl, rfl, rfl, rfl, rfl, rfl, rfl, rfl, rfl, rfl, rfl, rfl, trivial⟩
  replace hs := hs.nilCel none rfl
  replace hs := hs.nilBys none rfl
  replace hs : St 66 ⟨w0, [], [(true, .cel (.slice ad2 1 1) 1 (bcs ([UInt8.ofNat 2]))), (true, .cel (.slice ad4 1 1) 1 (bcs ([UInt8.ofNat 3]))), (true, .cel (.slice ad6 2 2) 2 ([.slice ad2 1 1, .slice ad4 1 1])), (true, .bys ([.slice ad2 1 1, .slice ad4 1 1]) ([[UInt8.ofNat 2], [UInt8.ofNat 3]])), (true, .cel (.slice none 0 0) 0 ([])), (true, .bys ([]) ([])), (true, .cel (.slice ad10 (([[UInt8.ofNat 5]]).length) cp11) (([[UInt8.ofNat 5]]).length) vs12), (true, .cel (.slice ad13 (([]).length) cp14) (([]).length) us15), (true, .bys (vs12 ++ us15 ++ ([])) (([[UInt8.ofNat 5]]) ++ ([]) ++ ([]))), (true, .bys vs12 ([[UInt8.ofNat 5]])), (true, .bys us15 ([])), (true, .cel (.slice al20 (([UInt8.ofNat 5]).length) cl21) (([UInt8.ofNat 5]).length) (bcs ([UInt8.ofNat 5]))), (true, .cel (.slice none 0 0) 0 ([])), (true, .bys ([]) ([])), (true, .cel (.slice none 0 0) 0 ([])), (true, .bys ([]) ([]))], Z, noX⟩ [(0, true, .bool false), (8, true, .slice ad2 1 1), (9, true, .slice ad4 1 1), (10, true, .slice ad6 2 2), (11, true, .agg #[.slice ad6 2 2, .slice none 0 0]), (12, true, .tuple #[.agg #[.slice ad10 (([[UInt8.ofNat 5]]).length) cp11, .slice ad13 (([]).length) cp14], .int .i64 0]), (7, true, .tuple #[.agg #[.slice ad10 (([[UInt8.ofNat 5]]).length) cp11, .slice ad13 (([]).length) cp14], .int .i64 0]), (13, true, .agg #[.slice ad10 (([[UInt8.ofNat 5]]).length) cp11, .slice ad13 (([]).length) cp14]), (14, true, .int .i64 0), (1, true, .pointer (some ⟨g17, 0, none⟩)), (2, true, .int .i64 0), (16, true, .agg #[.slice none 0 0, .slice none 0 0])] [(true, g17, 24, [.slice ad10 (([[UInt8.ofNat 5]]).length) cp11, .slice ad13 (([]).length) cp14])] ac _ := hs.re ⟨rfl, rfl, rfl, rfl, rfl, rfl, rfl, rfl, rfl, rfl, rfl, rfl, trivial⟩
  refine lstep (wpO_plain rfl (op_callX (F := 11) (ρ := M2) hs none none [] [12, 13, 14, 15] (v := fun r => .tuple #[.agg #[.slice r.a (([]).length) r.c, .slice r.b (([]).length) r.d], .int .i64 10]) (S1 := [(true, .cel (.slice none 0 0) 0 ([])), (true, .bys ([]) ([])), (true, .cel (.slice none 0 0) 0 ([])), (true, .bys ([]) ([]))]) (bs1 := []) (E := fun r => [(true, .cel (.slice none 0 0) 0 ([])), (true, .bys ([]) ([])), (true, .cel (.slice none 0 0) 0 ([])), (true, .bys ([]) ([])), (true, .own (.slice r.a (([]).length) r.c) 34 1 (([]).length) r.vs), (true, .own (.slice r.b (([]).length) r.d) 34 1 (([]).length) r.us), (true, .bysO r.G (r.vs ++ r.us ++ ([])) (([]) ++ ([]) ++ ([])))]) (E1 := fun r => [(true, .cel (.slice none 0 0) 0 ([])), (true, .bys ([]) ([])), (true, .cel (.slice none 0 0) 0 ([])), (true, .bys ([]) ([]))]) (E2 := fun r => [.own (.slice r.a (([]).length) r.c) 34 1 (([]).length) r.vs, .own (.slice r.b (([]).length) r.d) 34 1 (([]).length) r.us, .bysO r.G (r.vs ++ r.us ++ ([])) (([]) ++ ([]) ++ ([]))]) (bfA := fun r => []) (bf := fun r => []) (bf2 := fun r => []) rfl rfl rfl rfl rfl (Try.call11 _) rfl rfl (by decide) (by decide) (fun Z X hm => do_c none 0 ([]) none 0 ([]) ([]) ([]) 255 ([]) ([]) 10 OkN.nil OkN.nil do_255 _ _ _ hm) (fun _ => rfl) (fun _ => rfl) (fun _ => rfl) (fun _ => rfl) (fun _ => rfl) rfl fun ⟨ad26, cp27, vs28, ad29, cp30, us31, G32⟩ ac w hs => ?_))
  refine lstep (wpO_plain rfl (op_move hs none rfl rfl rfl rfl fun ac hs => ?_))
  refine lstep (wpO_plain rfl (op_extract hs none rfl rfl rfl rfl rfl fun ac hs => ?_))
  refine lstep (wpO_plain rfl (op_extract hs none rfl rfl rfl rfl rfl fun ac hs => ?_))
  refine lstep (wpO_plain rfl (op_alloc hs none none (cs := [.slice none 0 0, .slice none 0 0]) rfl rfl Try.zeroValue24 (by kernel_rfl) rfl rfl fun g33 ac w hs => ?_))
  refine lstep (wpO_plain rfl (op_store hs 1 (vs := [.slice ad26 (([]).length) cp27, .slice ad29 (([]).length) cp30]) rfl rfl rfl rfl rfl Try.sizeOf24 rfl rfl rfl rfl rfl fun w hs => ?_))
  refine lstep (wpO_plain rfl (op_assign hs none rfl rfl rfl rfl fun ac hs => ?_))
  refine wpList_nil ?_
  replace hs : St 66 ⟨w0, [], [(true, .cel (.slice ad2 1 1) 1 (bcs ([UInt8.ofNat 2]))), (true, .cel (.slice ad4 1 1) 1 (bcs ([UInt8.ofNat 3]))), (true, .cel (.slice ad6 2 2) 2 ([.slice ad2 1 1, .slice ad4 1 1])), (true, .bys ([.slice ad2 1 1, .slice ad4 1 1]) ([[UInt8.ofNat 2], [UInt8.ofNat 3]])), (true, .cel (.slice none 0 0) 0 ([])), (true, .bys ([]) ([])), (true, .cel (.slice ad10 (([[UInt8.ofNat 5]]).length) cp11) (([[UInt8.ofNat 5]]).length) vs12), (true, .cel (.slice ad13 (([]).length) cp14) (([]).length) us15), (true, .bys (vs12 ++ us15 ++ ([])) (([[UInt8.ofNat 5]]) ++ ([]) ++ ([]))), (true, .bys vs12 ([[UInt8.ofNat 5]])), (true, .bys us15 ([])), (true, .cel (.slice al20 (([UInt8.ofNat 5]).length) cl21) (([UInt8.ofNat 5]).length) (bcs ([UInt8.ofNat 5]))), (true, .cel (.slice none 0 0) 0 ([])), (true, .bys ([]) ([])), (true, .cel (.slice none 0 0) 0 ([])), (true, .bys ([]) ([])), (true, .own (.slice ad26 (([]).length) cp27) 34 1 (([]).length) vs28), (true, .own (.slice ad29 (([]).length) cp30) 34 1 (([]).length) us31), (true, .bysO G32 (vs28 ++ us31 ++ ([])) (([]) ++ ([]) ++ ([])))], Z, noX⟩ [(0, true, .bool false), (1, true, .pointer (some ⟨g17, 0, none⟩)), (2, true, .int .i64 0), (16, true, .agg #[.slice none 0 0, .slice none 0 0]), (17, true, .tuple #[.agg #[.slice ad26 (([]).length) cp27, .slice ad29 (([]).length) cp30], .int .i64 10]), (15, true, .tuple #[.agg #[.slice ad26 (([]).length) cp27, .slice ad29 (([]).length) cp30], .int .i64 10]), (18, true, .agg #[.slice ad26 (([]).length) cp27, .slice ad29 (([]).length) cp30]), (19, true, .int .i64 10), (3, true, .pointer (some ⟨g33, 0, none⟩)), (4, true, .int .i64 10)] [(true, g17, 24, [.slice ad10 (([[UInt8.ofNat 5]]).length) cp11, .slice ad13 (([]).length) cp14]), (true, g33, 24, [.slice ad26 (([]).length) cp27, .slice ad29 (([]).length) cp30])] ac _ := hs.re ⟨rfl, rfl, rfl, rfl, rfl, rfl, rfl, rfl, rfl, rfl, trivial⟩
  have hl34 := hs.ownLen 16 rfl
  replace hs := hs.freeze 16 rfl
  have hl35 := hs.ownLen 17 rfl
  replace hs := hs.freeze 17 rfl
  replace hs := hs.freezeB 18 rfl
  replace hs := hs.splitY 18 rfl hl34 hl35
  replace hs : St 66 ⟨w0, [], [(true, .cel (.slice ad2 1 1) 1 (bcs ([UInt8.ofNat 2]))), (true, .cel (.slice ad4 1 1) 1 (bcs ([UInt8.ofNat 3]))), (true, .cel (.slice ad6 2 2) 2 ([.slice ad2 1 1, .slice ad4 1 1])), (true, .bys ([.slice ad2 1 1, .slice ad4 1 1]) ([[UInt8.ofNat 2], [UInt8.ofNat 3]])), (true, .cel (.slice none 0 0) 0 ([])), (true, .bys ([]) ([])), (true, .cel (.slice ad10 (([[UInt8.ofNat 5]]).length) cp11) (([[UInt8.ofNat 5]]).length) vs12), (true, .cel (.slice ad13 (([]).length) cp14) (([]).length) us15), (true, .bys (vs12 ++ us15 ++ ([])) (([[UInt8.ofNat 5]]) ++ ([]) ++ ([]))), (true, .bys vs12 ([[UInt8.ofNat 5]])), (true, .bys us15 ([])), (true, .cel (.slice al20 (([UInt8.ofNat 5]).length) cl21) (([UInt8.ofNat 5]).length) (bcs ([UInt8.ofNat 5]))), (true, .cel (.slice none 0 0) 0 ([])), (true, .bys ([]) ([])), (true, .cel (.slice none 0 0) 0 ([])), (true, .bys ([]) ([])), (true, .cel (.slice ad26 (([]).length) cp27) (([]).length) vs28), (true, .cel (.slice ad29 (([]).length) cp30) (([]).length) us31), (true, .bys (vs28 ++ us31 ++ ([])) (([]) ++ ([]) ++ ([]))), (true, .bys vs28 ([])), (true, .bys us31 ([]))], Z, noX⟩ [(0, true, .bool false), (1, true, .pointer (some ⟨g17, 0, none⟩)), (2, true, .int .i64 0), (16, true, .agg #[.slice none 0 0, .slice none 0 0]), (17, true, .tuple #[.agg #[.slice ad26 (([]).length) cp27, .slice ad29 (([]).length) cp30], .int .i64 10]), (15, true, .tuple #[.agg #[.slice ad26 (([]).length) cp27, .slice ad29 (([]).length) cp30], .int .i64 10]), (18, true, .agg #[.slice ad26 (([]).length) cp27, .slice ad29 (([]).length) cp30]), (19, true, .int .i64 10), (3, true, .pointer (some ⟨g33, 0, none⟩)), (4, true, .int .i64 10)] [(true, g17, 24, [.slice ad10 (([[UInt8.ofNat 5]]).length) cp11, .slice ad13 (([]).length) cp14]), (true, g33, 24, [.slice ad26 (([]).length) cp27, .slice ad29 (([]).length) cp30])] ac _ := hs.re ⟨rfl, rfl, rfl, rfl, rfl, rfl, rfl, rfl, rfl, rfl, trivial⟩
  refine then_n ?_
  refine wp_seq ?_
  refine wp_region_lit ?_
  refine lstep (wpO_plain rfl (op_bsO hs none none (qs := [(0, .int .u8 1)]) (cs := [.int .u8 1]) (cs' := bcs [UInt8.ofNat 1]) rfl rfl rfl rfl Try.underlying34 inf_u8_5 (by decide) (by decide) (fill_one _ _ rfl ) rfl (bcs_cons (by decide) rfl) rfl rfl fun ad37 ac w hs => ?_))
  refine lstep (wpO_plain rfl (op_bsO hs none none (qs := [(0, .int .u8 2)]) (cs := [.int .u8 2]) (cs' := bcs [UInt8.ofNat 2]) rfl rfl rfl rfl Try.underlying34 inf_u8_5 (by decide) (by decide) (fill_one _ _ rfl ) rfl (bcs_cons (by decide) rfl) rfl rfl fun ad39 ac w hs => ?_))
  refine lstep (wpO_plain rfl (op_bsO hs none none (qs := [(0, .slice ad37 1 1), (1, .slice ad39 1 1)]) (cs := [.slice ad37 1 1, .slice ad39 1 1]) rfl rfl rfl rfl Try.underlying22 inf_slice_34 (by decide) (by decide) (fill_two _ _ _ rfl rfl) rfl rfl rfl rfl fun ad41 ac w hs => ?_))
  refine lstep (wpO_plain rfl (op_build hs none (qs := [(0, .slice ad41 2 2)]) (v := .agg #[.slice ad41 2 2, .slice none 0 0]) rfl rfl rfl rfl (fun _ => by kernel_rfl) rfl fun ac hs => ?_))
  replace hs := hs.freeze 23 rfl
  replace hs := hs.nilBys none rfl
  replace hs := hs.freeze 21 rfl
  replace hs := hs.snocBys (l := [UInt8.ofNat 1]) (ls' := [[UInt8.ofNat 1]]) 24 21 rfl rfl rfl
  replace hs := hs.freeze 22 rfl
  replace hs := hs.snocBys (l := [UInt8.ofNat 2]) (ls' := [[UInt8.ofNat 1], [UInt8.ofNat 2]]) 24 22 rfl rfl rfl
  replace hs := hs.bysEq 24 (vs' := [.slice ad37 1 1, .slice ad39 1 1]) (ls' := [[UInt8.ofNat 1], [UInt8.ofNat 2]]) rfl rfl rfl
  replace hs : St 66 ⟨w0, [], [(true, .cel (.slice ad2 1 1) 1 (bcs ([UInt8.ofNat 2]))), (true, .cel (.slice ad4 1 1) 1 (bcs ([UInt8.ofNat 3]))), (true, .cel (.slice ad6 2 2) 2 ([.slice ad2 1 1, .slice ad4 1 1])), (true, .bys ([.slice ad2 1 1, .slice ad4 1 1]) ([[UInt8.ofNat 2], [UInt8.ofNat 3]])), (true, .cel (.slice none 0 0) 0 ([])), (true, .bys ([]) ([])), (true, .cel (.slice ad10 (([[UInt8.ofNat 5]]).length) cp11) (([[UInt8.ofNat 5]]).length) vs12), (true, .cel (.slice ad13 (([]).length) cp14) (([]).length) us15), (true, .bys (vs12 ++ us15 ++ ([])) (([[UInt8.ofNat 5]]) ++ ([]) ++ ([]))), (true, .bys vs12 ([[UInt8.ofNat 5]])), (true, .bys us15 ([])), (true, .cel (.slice al20 (([UInt8.ofNat 5]).length) cl21) (([UInt8.ofNat 5]).length) (bcs ([UInt8.ofNat 5]))), (true, .cel (.slice none 0 0) 0 ([])), (true, .bys ([]) ([])), (true, .cel (.slice none 0 0) 0 ([])), (true, .bys ([]) ([])), (true, .cel (.slice ad26 (([]).length) cp27) (([]).length) vs28), (true, .cel (.slice ad29 (([]).length) cp30) (([]).length) us31), (true, .bys (vs28 ++ us31 ++ ([])) (([]) ++ ([]) ++ ([]))), (true, .bys vs28 ([])), (true, .bys us31 ([])), (true, .cel (.slice ad37 1 1) 1 (bcs ([UInt8.ofNat 1]))), (true, .cel (.slice ad39 1 1) 1 (bcs ([UInt8.ofNat 2]))), (true, .cel (.slice ad41 2 2) 2 ([.slice ad37 1 1, .slice ad39 1 1])), (true, .bys ([.slice ad37 1 1, .slice ad39 1 1]) ([[UInt8.ofNat 1], [UInt8.ofNat 2]]))], Z, noX⟩ [(0, true, .bool false), (1, true, .pointer (some ⟨g17, 0, none⟩)), (2, true, .int .i64 0), (16, true, .agg #[.slice none 0 0, .slice none 0 0]), (17, true, .tuple #[.agg #[.slice ad26 (([]).length) cp27, .slice ad29 (([]).length) cp30], .int .i64 10]), (15, true, .tuple #[.agg #[.slice ad26 (([]).length) cp27, .slice ad29 (([]).length) cp30], .int .i64 10]), (18, true, .agg #[.slice ad26 (([]).length) cp27, .slice ad29 (([]).length) cp30]), (19, true, .int .i64 10), (3, true, .pointer (some ⟨g33, 0, none⟩)), (4, true, .int .i64 10), (21, true, .slice ad37 1 1), (22, true, .slice ad39 1 1), (23, true, .slice ad41 2 2), (24, true, .agg #[.slice ad41 2 2, .slice none 0 0])] [(true, g17, 24, [.slice ad10 (([[UInt8.ofNat 5]]).length) cp11, .slice ad13 (([]).length) cp14]), (true, g33, 24, [.slice ad26 (([]).length) cp27, .slice ad29 (([]).length) cp30])] ac _ := hs.re ⟨rfl, rfl, rfl, rfl, rfl, rfl, rfl, rfl, rfl, rfl, rfl, rfl, rfl, rfl, trivial⟩
  replace hs := hs.nilCel none rfl
  replace hs := hs.nilBys none rfl
  replace hs : St 66 ⟨w0, [], [(true, .cel (.slice ad2 1 1) 1 (bcs ([UInt8.ofNat 2]))), (true, .cel (.slice ad4 1 1) 1 (bcs ([UInt8.ofNat 3]))), (true, .cel (.slice ad6 2 2) 2 ([.slice ad2 1 1, .slice ad4 1 1])), (true, .bys ([.slice ad2 1 1, .slice ad4 1 1]) ([[UInt8.ofNat 2], [UInt8.ofNat 3]])), (true, .cel (.slice none 0 0) 0 ([])), (true, .bys ([]) ([])), (true, .cel (.slice ad10 (([[UInt8.ofNat 5]]).length) cp11) (([[UInt8.ofNat 5]]).length) vs12), (true, .cel (.slice ad13 (([]).length) cp14) (([]).length) us15), (true, .bys (vs12 ++ us15 ++ ([])) (([[UInt8.ofNat 5]]) ++ ([]) ++ ([]))), (true, .bys vs12 ([[UInt8.ofNat 5]])), (true, .bys us15 ([])), (true, .cel (.slice al20 (([UInt8.ofNat 5]).length) cl21) (([UInt8.ofNat 5]).length) (bcs ([UInt8.ofNat 5]))), (true, .cel (.slice none 0 0) 0 ([])), (true, .bys ([]) ([])), (true, .cel (.slice none 0 0) 0 ([])), (true, .bys ([]) ([])), (true, .cel (.slice ad26 (([]).length) cp27) (([]).length) vs28), (true, .cel (.slice ad29 (([]).length) cp30) (([]).length) us31), (true, .bys (vs28 ++ us31 ++ ([])) (([]) ++ ([]) ++ ([]))), (true, .bys vs28 ([])), (true, .bys us31 ([])), (true, .cel (.slice ad37 1 1) 1 (bcs ([UInt8.ofNat 1]))), (true, .cel (.slice ad39 1 1) 1 (bcs ([UInt8.ofNat 2]))), (true, .cel (.slice ad41 2 2) 2 ([.slice ad37 1 1, .slice ad39 1 1])), (true, .bys ([.slice ad37 1 1, .slice ad39 1 1]) ([[UInt8.ofNat 1], [UInt8.ofNat 2]])), (true, .cel (.slice none 0 0) 0 ([])), (true, .bys ([]) ([]))], Z, noX⟩ [(0, true, .bool false), (1, true, .pointer (some ⟨g17, 0, none⟩)), (2, true, .int .i64 0), (16, true, .agg #[.slice none 0 0, .slice none 0 0]), (17, true, .tuple #[.agg #[.slice ad26 (([]).length) cp27, .slice ad29 (([]).length) cp30], .int .i64 10]), (15, true, .tuple #[.agg #[.slice ad26 (([]).length) cp27, .slice ad29 (([]).length) cp30], .int .i64 10]), (18, true, .agg #[.slice ad26 (([]).length) cp27, .slice ad29 (([]).length) cp30]), (19, true, .int .i64 10), (3, true, .pointer (some ⟨g33, 0, none⟩)), (4, true, .int .i64 10), (21, true, .slice ad37 1 1), (22, true, .slice ad39 1 1), (23, true, .slice ad41 2 2), (24, true, .agg #[.slice ad41 2 2, .slice none 0 0])] [(true, g17, 24, [.slice ad10 (([[UInt8.ofNat 5]]).length) cp11, .slice ad13 (([]).length) cp14]), (true, g33, 24, [.slice ad26 (([]).length) cp27, .slice ad29 (([]).length) cp30])] ac _ := hs.re ⟨rfl, rfl, rfl, rfl, rfl, rfl, rfl, rfl, rfl, rfl, rfl, rfl, rfl, rfl, trivial⟩
  refine lstep (wpO_plain rfl (op_callX (F := 11) (ρ := M2) hs none none [] [23, 24, 25, 26] (v := fun r => .tuple #[.agg #[.slice r.a (([[UInt8.ofNat 1, UInt8.ofNat 2]]).length) r.c, .slice r.b (([]).length) r.d], .int .i64 0]) (S1 := [(true, .cel (.slice ad41 2 2) 2 ([.slice ad37 1 1, .slice ad39 1 1])), (true, .bys ([.slice ad37 1 1, .slice ad39 1 1]) ([[UInt8.ofNat 1], [UInt8.ofNat 2]])), (true, .cel (.slice none 0 0) 0 ([])), (true, .bys ([]) ([]))]) (bs1 := []) (E := fun r => [(true, .cel (.slice ad41 2 2) 2 ([.slice ad37 1 1, .slice ad39 1 1])), (true, .bys ([.slice ad37 1 1, .slice ad39 1 1]) ([[UInt8.ofNat 1], [UInt8.ofNat 2]])), (true, .cel (.slice none 0 0) 0 ([])), (true, .bys ([]) ([])), (true, .own (.slice r.a (([[UInt8.ofNat 1, UInt8.ofNat 2]]).length) r.c) 34 1 (([[UInt8.ofNat 1, UInt8.ofNat 2]]).length) r.vs), (true, .own (.slice r.b (([]).length) r.d) 34 1 (([]).length) r.us), (true, .bysO r.G (r.vs ++ r.us ++ ([])) (([[UInt8.ofNat 1, UInt8.ofNat 2]]) ++ ([]) ++ ([])))]) (E1 := fun r => [(true, .cel (.slice ad41 2 2) 2 ([.slice ad37 1 1, .slice ad39 1 1])), (true, .bys ([.slice ad37 1 1, .slice ad39 1 1]) ([[UInt8.ofNat 1], [UInt8.ofNat 2]])), (true, .cel (.slice none 0 0) 0 ([])), (true, .bys ([]) ([]))]) (E2 := fun r => [.own (.slice r.a (([[UInt8.ofNat 1, UInt8.ofNat 2]]).length) r.c) 34 1 (([[UInt8.ofNat 1, UInt8.ofNat 2]]).length) r.vs, .own (.slice r.b (([]).length) r.d) 34 1 (([]).length) r.us, .bysO r.G (r.vs ++ r.us ++ ([])) (([[UInt8.ofNat 1, UInt8.ofNat 2]]) ++ ([]) ++ ([]))]) (bfA := fun r => []) (bf := fun r => []) (bf2 := fun r => []) rfl rfl rfl rfl rfl (Try.call11 _) rfl rfl (by decide) (by decide) (fun Z X hm => do_c ad41 2 ([.slice ad37 1 1, .slice ad39 1 1]) none 0 ([]) ([[UInt8.ofNat 1], [UInt8.ofNat 2]]) ([]) 126 ([[UInt8.ofNat 1, UInt8.ofNat 2]]) ([]) 0 (show OkN 1000 [[UInt8.ofNat 1], [UInt8.ofNat 2]] from ⟨by decide, by decide⟩) OkN.nil do_126 _ _ _ hm) (fun _ => rfl) (fun _ => rfl) (fun _ => rfl) (fun _ => rfl) (fun _ => rfl) rfl fun ⟨ad45, cp46, vs47, ad48, cp49, us50, G51⟩ ac w hs => ?_))
  refine lstep (wpO_plain rfl (op_move hs none rfl rfl rfl rfl fun ac hs => ?_))
  refine lstep (wpO_plain rfl (op_extract hs none rfl rfl rfl rfl rfl fun ac hs => ?_))
  refine lstep (wpO_plain rfl (op_extract hs none rfl rfl rfl rfl rfl fun ac hs => ?_))
  refine lstep (wpO_plain rfl (op_alloc hs none none (cs := [.slice none 0 0, .slice none 0 0]) rfl rfl Try.zeroValue24 (by kernel_rfl) rfl rfl fun g52 ac w hs => ?_))
  refine lstep (wpO_plain rfl (op_store hs 2 (vs := [.slice ad45 (([[UInt8.ofNat 1, UInt8.ofNat 2]]).length) cp46, .slice ad48 (([]).length) cp49]) rfl rfl rfl rfl rfl Try.sizeOf24 rfl rfl rfl rfl rfl fun w hs => ?_))
  refine lstep (wpO_plain rfl (op_assign hs none rfl rfl rfl rfl fun ac hs => ?_))
  refine wpList_nil ?_
  replace hs : St 66 ⟨w0, [], [(true, .cel (.slice ad2 1 1) 1 (bcs ([UInt8.ofNat 2]))), (true, .cel (.slice ad4 1 1) 1 (bcs ([UInt8.ofNat 3]))), (true, .cel (.slice ad6 2 2) 2 ([.slice ad2 1 1, .slice ad4 1 1])), (true, .bys ([.slice ad2 1 1, .slice ad4 1 1]) ([[UInt8.ofNat 2], [UInt8.ofNat 3]])), (true, .cel (.slice none 0 0) 0 ([])), (true, .bys ([]) ([])), (true, .cel (.slice ad10 (([[UInt8.ofNat 5]]).length) cp11) (([[UInt8.ofNat 5]]).length) vs12), (true, .cel (.slice ad13 (([]).length) cp14) (([]).length) us15), (true, .bys (vs12 ++ us15 ++ ([])) (([[UInt8.ofNat 5]]) ++ ([]) ++ ([]))), (true, .bys vs12 ([[UInt8.ofNat 5]])), (true, .bys us15 ([])), (true, .cel (.slice al20 (([UInt8.ofNat 5]).length) cl21) (([UInt8.ofNat 5]).length) (bcs ([UInt8.ofNat 5]))), (true, .cel (.slice none 0 0) 0 ([])), (true, .bys ([]) ([])), (true, .cel (.slice none 0 0) 0 ([])), (true, .bys ([]) ([])), (true, .cel (.slice ad26 (([]).length) cp27) (([]).length) vs28), (true, .cel (.slice ad29 (([]).length) cp30) (([]).length) us31), (true, .bys (vs28 ++ us31 ++ ([])) (([]) ++ ([]) ++ ([]))), (true, .bys vs28 ([])), (true, .bys us31 ([])), (true, .cel (.slice ad37 1 1) 1 (bcs ([UInt8.ofNat 1]))), (true, .cel (.slice ad39 1 1) 1 (bcs ([UInt8.ofNat 2]))), (true, .cel (.slice ad41 2 2) 2 ([.slice ad37 1 1, .slice ad39 1 1])), (true, .bys ([.slice ad37 1 1, .slice ad39 1 1]) ([[UInt8.ofNat 1], [UInt8.ofNat 2]])), (true, .cel (.slice none 0 0) 0 ([])), (true, .bys ([]) ([])), (true, .own (.slice ad45 (([[UInt8.ofNat 1, UInt8.ofNat 2]]).length) cp46) 34 1 (([[UInt8.ofNat 1, UInt8.ofNat 2]]).length) vs47), (true, .own (.slice ad48 (([]).length) cp49) 34 1 (([]).length) us50), (true, .bysO G51 (vs47 ++ us50 ++ ([])) (([[UInt8.ofNat 1, UInt8.ofNat 2]]) ++ ([]) ++ ([])))], Z, noX⟩ [(0, true, .bool false), (1, true, .pointer (some ⟨g17, 0, none⟩)), (2, true, .int .i64 0), (4, true, .int .i64 10), (21, true, .slice ad37 1 1), (22, true, .slice ad39 1 1), (23, true, .slice ad41 2 2), (24, true, .agg #[.slice ad41 2 2, .slice none 0 0]), (25, true, .tuple #[.agg #[.slice ad45 (([[UInt8.ofNat 1, UInt8.ofNat 2]]).length) cp46, .slice ad48 (([]).length) cp49], .int .i64 0]), (20, true, .tuple #[.agg #[.slice ad45 (([[UInt8.ofNat 1, UInt8.ofNat 2]]).length) cp46, .slice ad48 (([]).length) cp49], .int .i64 0]), (26, true, .agg #[.slice ad45 (([[UInt8.ofNat 1, UInt8.ofNat 2]]).length) cp46, .slice ad48 (([]).length) cp49]), (27, true, .int .i64 0), (5, true, .pointer (some ⟨g52, 0, none⟩)), (6, true, .int .i64 0)] [(true, g17, 24, [.slice ad10 (([[UInt8.ofNat 5]]).length) cp11, .slice ad13 (([]).length) cp14]), (true, g33, 24, [.slice ad26 (([]).length) cp27, .slice ad29 (([]).length) cp30]), (true, g52, 24, [.slice ad45 (([[UInt8.ofNat 1, UInt8.ofNat 2]]).length) cp46, .slice ad48 (([]).length) cp49])] ac _ := hs.re ⟨rfl, rfl, rfl, rfl, rfl, rfl, rfl, rfl, rfl, rfl, rfl, rfl, rfl, rfl, trivial⟩
  have hl53 := hs.ownLen 27 rfl
  replace hs := hs.freeze 27 rfl
  have hl54 := hs.ownLen 28 rfl
  replace hs := hs.freeze 28 rfl
  replace hs := hs.freezeB 29 rfl
  replace hs := hs.splitY 29 rfl hl53 hl54
  replace hs : St 66 ⟨w0, [], [(true, .cel (.slice ad2 1 1) 1 (bcs ([UInt8.ofNat 2]))), (true, .cel (.slice ad4 1 1) 1 (bcs ([UInt8.ofNat 3]))), (true, .cel (.slice ad6 2 2) 2 ([.slice ad2 1 1, .slice ad4 1 1])), (true, .bys ([.slice ad2 1 1, .slice ad4 1 1]) ([[UInt8.ofNat 2], [UInt8.ofNat 3]])), (true, .cel (.slice none 0 0) 0 ([])), (true, .bys ([]) ([])), (true, .cel (.slice ad10 (([[UInt8.ofNat 5]]).length) cp11) (([[UInt8.ofNat 5]]).length) vs12), (true, .cel (.slice ad13 (([]).length) cp14) (([]).length) us15), (true, .bys (vs12 ++ us15 ++ ([])) (([[UInt8.ofNat 5]]) ++ ([]) ++ ([]))), (true, .bys vs12 ([[UInt8.ofNat 5]])), (true, .bys us15 ([])), (true, .cel (.slice al20 (([UInt8.ofNat 5]).length) cl21) (([UInt8.ofNat 5]).length) (bcs ([UInt8.ofNat 5]))), (true, .cel (.slice none 0 0) 0 ([])), (true, .bys ([]) ([])), (true, .cel (.slice none 0 0) 0 ([])), (true, .bys ([]) ([])), (true, .cel (.slice ad26 (([]).length) cp27) (([]).length) vs28), (true, .cel (.slice ad29 (([]).length) cp30) (([]).length) us31), (true, .bys (vs28 ++ us31 ++ ([])) (([]) ++ ([]) ++ ([]))), (true, .bys vs28 ([])), (true, .bys us31 ([])), (true, .cel (.slice ad37 1 1) 1 (bcs ([UInt8.ofNat 1]))), (true, .cel (.slice ad39 1 1) 1 (bcs ([UInt8.ofNat 2]))), (true, .cel (.slice ad41 2 2) 2 ([.slice ad37 1 1, .slice ad39 1 1])), (true, .bys ([.slice ad37 1 1, .slice ad39 1 1]) ([[UInt8.ofNat 1], [UInt8.ofNat 2]])), (true, .cel (.slice none 0 0) 0 ([])), (true, .bys ([]) ([])), (true, .cel (.slice ad45 (([[UInt8.ofNat 1, UInt8.ofNat 2]]).length) cp46) (([[UInt8.ofNat 1, UInt8.ofNat 2]]).length) vs47), (true, .cel (.slice ad48 (([]).length) cp49) (([]).length) us50), (true, .bys (vs47 ++ us50 ++ ([])) (([[UInt8.ofNat 1, UInt8.ofNat 2]]) ++ ([]) ++ ([]))), (true, .bys vs47 ([[UInt8.ofNat 1, UInt8.ofNat 2]])), (true, .bys us50 ([]))], Z, noX⟩ [(0, true, .bool false), (1, true, .pointer (some ⟨g17, 0, none⟩)), (2, true, .int .i64 0), (4, true, .int .i64 10), (21, true, .slice ad37 1 1), (22, true, .slice ad39 1 1), (23, true, .slice ad41 2 2), (24, true, .agg #[.slice ad41 2 2, .slice none 0 0]), (25, true, .tuple #[.agg #[.slice ad45 (([[UInt8.ofNat 1, UInt8.ofNat 2]]).length) cp46, .slice ad48 (([]).length) cp49], .int .i64 0]), (20, true, .tuple #[.agg #[.slice ad45 (([[UInt8.ofNat 1, UInt8.ofNat 2]]).length) cp46, .slice ad48 (([]).length) cp49], .int .i64 0]), (26, true, .agg #[.slice ad45 (([[UInt8.ofNat 1, UInt8.ofNat 2]]).length) cp46, .slice ad48 (([]).length) cp49]), (27, true, .int .i64 0), (5, true, .pointer (some ⟨g52, 0, none⟩)), (6, true, .int .i64 0)] [(true, g17, 24, [.slice ad10 (([[UInt8.ofNat 5]]).length) cp11, .slice ad13 (([]).length) cp14]), (true, g33, 24, [.slice ad26 (([]).length) cp27, .slice ad29 (([]).length) cp30]), (true, g52, 24, [.slice ad45 (([[UInt8.ofNat 1, UInt8.ofNat 2]]).length) cp46, .slice ad48 (([]).length) cp49])] ac _ := hs.re ⟨rfl, rfl, rfl, rfl, rfl, rfl, rfl, rfl, rfl, rfl, rfl, rfl, rfl, rfl, trivial⟩
  obtain ⟨al55, cl56, hv57⟩ := bysv_at (l := [UInt8.ofNat 1, UInt8.ofNat 2]) (i := 0) (hs.all (k := 30) rfl rfl) rfl
  replace hs := hs.pick none 30 (i := 0) (l := [UInt8.ofNat 1, UInt8.ofNat 2]) rfl hv57 rfl rfl
  refine then_n ?_
  refine wp_seq ?_
  refine wp_region_lit ?_
  refine lstep (wpO_plain rfl (op_move hs none rfl rfl rfl rfl fun ac hs => ?_))
  refine lstep (wpO_plain rfl (op_bin hs none (v := .bool true) rfl rfl rfl rfl (fun _ => rfl) (fun _ => by kernel_rfl) rfl fun ac hs => ?_))
  refine lstep (wpO_plain rfl (op_move hs none rfl rfl rfl rfl fun ac hs => ?_))
  refine lstep (wpO_in hs rfl rfl rfl (op_fieldA hs none rfl rfl rfl Try.underlying24 rfl Try.sizeOf22 (by decide) rfl fun ac hs => ?_))
  refine lstep (wpO_in hs rfl rfl rfl (op_load hs none 0 (v := .slice ad10 (([[UInt8.ofNat 5]]).length) cp11) rfl rfl rfl rfl Try.isAgg22 Try.sizeOf22 rfl rfl fun ac hs => ?_))
  refine lstep (wpO_in hs rfl rfl rfl (op_blt hs none (v := .int .i64 ((([[UInt8.ofNat 5]]).length : Nat) : Int)) rfl rfl rfl (blt_len Try.underlying22) rfl fun ac hs => ?_))
  refine lstep (wpO_in hs rfl rfl rfl (op_bin hs none (v := .bool true) rfl rfl rfl rfl (fun _ => rfl) (fun w => dT rfl (bin_eqlN (x := ([[UInt8.ofNat 5]]).length) (y := 1) w)) rfl fun ac hs => ?_))
  refine lstep (wpO_plain rfl (op_pickT hs none rfl rfl rfl rfl rfl fun ac hs => ?_))
  refine lstep (wpO_plain rfl (op_move hs none rfl rfl rfl rfl fun ac hs => ?_))
  refine lstep (wpO_in hs rfl rfl rfl (op_fieldA hs none rfl rfl rfl Try.underlying24 rfl Try.sizeOf22 (by decide) rfl fun ac hs => ?_))
  refine lstep (wpO_in hs rfl rfl rfl (op_load hs none 0 (v := .slice ad10 (([[UInt8.ofNat 5]]).length) cp11) rfl rfl rfl rfl Try.isAgg22 Try.sizeOf22 rfl rfl fun ac hs => ?_))
  refine lstep (wpO_in hs rfl rfl rfl (op_idxC hs none 6 (j := 0) rfl rfl rfl rfl rfl Try.underlying22 Try.sizeOf34 (show 0 < ([[UInt8.ofNat 5]]).length by first | omega | ((try simp only [List.length_drop, List.length_take, List.length_append, List.length_cons, List.length_nil]); omega)) (off := 0) (by omega) rfl fun ac hs => ?_))
  refine lstep (wpO_in hs rfl rfl rfl (op_loadC hs none 6 (u := .slice al20 (([UInt8.ofNat 5]).length) cl21) rfl rfl rfl rfl Try.isAgg34 Try.sizeOf34 (by decide) hv22 rfl fun ac hs => ?_))
  refine lstep (wpO_in hs rfl rfl rfl (op_convBS hs none 11 rfl rfl rfl rfl rfl Try.underlying34 Try.underlying5 Try.underlying9 rfl fun ac hs => ?_))
  refine lstep (wpO_in hs rfl rfl rfl (op_bin hs none (v := .bool true) rfl rfl rfl rfl (fun _ => rfl) (fun _ => by kernel_rfl) rfl fun ac hs => ?_))
  refine lstep (wpO_plain rfl (op_pickT hs none rfl rfl rfl rfl rfl fun ac hs => ?_))
  refine lstep (wpO_plain rfl (op_move hs none rfl rfl rfl rfl fun ac hs => ?_))
  refine lstep (wpO_in hs rfl rfl rfl (op_move hs none rfl rfl rfl rfl fun ac hs => ?_))
  refine lstep (wpO_in hs rfl rfl rfl (op_bin hs none (v := .bool true) rfl rfl rfl rfl (fun _ => rfl) (fun _ => by kernel_rfl) rfl fun ac hs => ?_))
  refine lstep (wpO_plain rfl (op_pickT hs none rfl rfl rfl rfl rfl fun ac hs => ?_))
  refine lstep (wpO_plain rfl (op_move hs none rfl rfl rfl rfl fun ac hs => ?_))
  refine lstep (wpO_in hs rfl rfl rfl (op_move hs none rfl rfl rfl rfl fun ac hs => ?_))
  refine lstep (wpO_in hs rfl rfl rfl (op_bin hs none (v := .bool true) rfl rfl rfl rfl (fun _ => rfl) (fun _ => by kernel_rfl) rfl fun ac hs => ?_))
  refine lstep (wpO_plain rfl (op_pickT hs none rfl rfl rfl rfl rfl fun ac hs => ?_))
  refine lstep (wpO_plain rfl (op_move hs none rfl rfl rfl rfl fun ac hs => ?_))
  refine lstep (wpO_in hs rfl rfl rfl (op_fieldA hs none rfl rfl rfl Try.underlying24 rfl Try.sizeOf22 (by decide) rfl fun ac hs => ?_))
  refine lstep (wpO_in hs rfl rfl rfl (op_load hs none 2 (v := .slice ad45 (([[UInt8.ofNat 1, UInt8.ofNat 2]]).length) cp46) rfl rfl rfl rfl Try.isAgg22 Try.sizeOf22 rfl rfl fun ac hs => ?_))
  refine lstep (wpO_in hs rfl rfl rfl (op_blt hs none (v := .int .i64 ((([[UInt8.ofNat 1, UInt8.ofNat 2]]).length : Nat) : Int)) rfl rfl rfl (blt_len Try.underlying22) rfl fun ac hs => ?_))
  refine lstep (wpO_in hs rfl rfl rfl (op_bin hs none (v := .bool true) rfl rfl rfl rfl (fun _ => rfl) (fun w => dT rfl (bin_eqlN (x := ([[UInt8.ofNat 1, UInt8.ofNat 2]]).length) (y := 1) w)) rfl fun ac hs => ?_))
  refine lstep (wpO_plain rfl (op_pickT hs none rfl rfl rfl rfl rfl fun ac hs => ?_))
  refine lstep (wpO_plain rfl (op_move hs none rfl rfl rfl rfl fun ac hs => ?_))
  refine lstep (wpO_in hs rfl rfl rfl (op_fieldA hs none rfl rfl rfl Try.underlying24 rfl Try.sizeOf22 (by decide) rfl fun ac hs => ?_))
  refine lstep (wpO_in hs rfl rfl rfl (op_load hs none 2 (v := .slice ad45 (([[UInt8.ofNat 1, UInt8.ofNat 2]]).length) cp46) rfl rfl rfl rfl Try.isAgg22 Try.sizeOf22 rfl rfl fun ac hs => ?_))
  refine lstep (wpO_in hs rfl rfl rfl (op_idxC hs none 27 (j := 0) rfl rfl rfl rfl rfl Try.underlying22 Try.sizeOf34 (show 0 < ([[UInt8.ofNat 1, UInt8.ofNat 2]]).length by first | omega | ((try simp only [List.length_drop, List.length_take, List.length_append, List.length_cons, List.length_nil]); omega)) (off := 0) (by omega) rfl fun ac hs => ?_))
  refine lstep (wpO_in hs rfl rfl rfl (op_loadC hs none 27 (u := .slice al55 (([UInt8.ofNat 1, UInt8.ofNat 2]).length) cl56) rfl rfl rfl rfl Try.isAgg34 Try.sizeOf34 (by decide) hv57 rfl fun ac hs => ?_))
  refine lstep (wpO_in hs rfl rfl rfl (op_convBS hs none 32 rfl rfl rfl rfl rfl Try.underlying34 Try.underlying5 Try.underlying9 rfl fun ac hs => ?_))
  refine lstep (wpO_in hs rfl rfl rfl (op_bin hs none (v := .bool true) rfl rfl rfl rfl (fun _ => rfl) (fun _ => by kernel_rfl) rfl fun ac hs => ?_))
  refine lstep (wpO_plain rfl (op_pickT hs none rfl rfl rfl rfl rfl fun ac hs => ?_))
  refine lstep (wpO_plain rfl (op_assign hs none rfl rfl rfl rfl fun ac hs => ?_))
  refine wpList_nil ?_
  refine then_n ?_
  refine wp_ret ?_
  exact bodyPost_ret (res1 rfl (rv_t hs rfl)) hs.defers ⟨(), rfl, hs.bel rfl, okl0⟩
end Go.Proofs.Ytikkhkjndbicgaa

/- Stacks: what lies below the six upper things stays, in plain Lean. -/
namespace Go.Proofs.Ytikkhkjndbicgaa
open Go.RowKit
def Kp (n : Nat) (ks k : BL) : Prop := ks.length - n ≤ k.length ∧ k.take (ks.length - n) = ks.take (ks.length - n)
theorem Kp.of {n m : Nat} {ks : BL} (hm : ks.length - n ≤ m) (hl : m ≤ ks.length) (s : BL) : Kp n ks (ks.take m ++ s) := by
  have h1 : (ks.take m).length = m := by rw [List.length_take]; omega
  refine ⟨by rw [List.length_append, h1]; omega, ?_⟩
  rw [List.take_append_of_le_length (by omega), List.take_take, Nat.min_eq_left hm]
theorem Kp.same {n : Nat} {ks : BL} (s : BL) : Kp n ks (ks ++ s) := by
  have := Kp.of (n := n) (ks := ks) (m := ks.length) (by omega) (Nat.le_refl _) s
  rwa [List.take_length] at this
theorem Kp.self {n : Nat} {ks : BL} : Kp n ks ks := by
  have := Kp.same (n := n) (ks := ks) []
  rwa [List.append_nil] at this
theorem Kp.mono {n m : Nat} {ks k : BL} (h : Kp n ks k) (hnm : n ≤ m) : Kp m ks k := by
  refine ⟨by have := h.1; omega, ?_⟩
  have := congrArg (List.take (ks.length - m)) h.2
  rwa [List.take_take, List.take_take, Nat.min_eq_left (by omega)] at this
theorem Kp.trans {n m : Nat} {ks k l : BL} (h : Kp n ks k) (h2 : Kp m k l) : Kp (n + m) ks l := by
  obtain ⟨a1, a2⟩ := h
  obtain ⟨b1, b2⟩ := h2
  refine ⟨by omega, ?_⟩
  have c1 := congrArg (List.take (ks.length - (n + m))) a2
  have c2 := congrArg (List.take (ks.length - (n + m))) b2
  rw [List.take_take, List.take_take, Nat.min_eq_left (by omega)] at c1 c2
  exact c2.trans c1
theorem kp_snoc {n : Nat} {ks k : BL} (h : Kp n ks k) (s : BL) : Kp n ks (k ++ s) := by
  obtain ⟨a1, a2⟩ := h
  refine ⟨by rw [List.length_append]; omega, ?_⟩
  rw [List.take_append_of_le_length a1, a2]
theorem kp_pop {ks : BL} {e : Nat} : Kp 1 ks (popL ks e).2.1 := by
  unfold popL
  split
  · have := Kp.of (n := 1) (ks := ks) (m := ks.length - 1) (by omega) (by omega) []
    rwa [List.append_nil] at this
  · exact Kp.self
theorem kp_shuf {n : Nat} {ps : List Nat} {ks : BL} {e : Nat} : Kp n ks (shufL n ps ks e).1 := by
  unfold shufL
  split
  · exact Kp.of (by omega) (by omega) _
  · exact Kp.self
theorem kp_opsR : ∀ (n : Nat) {ks : BL} {e : Nat}, Kp n ks (opsR n ks e).2.1
  | 0, _, _ => Kp.self
  | n + 1, ks, e => by
    rw [opsR]
    have := Kp.trans (kp_pop (ks := ks) (e := e)) (kp_opsR n (ks := (popL ks e).2.1) (e := (readL (popL ks e).1 4 (popL ks e).2.2).2))
    rwa [Nat.add_comm] at this
theorem kp_ops {n : Nat} {ks : BL} {e : Nat} : Kp n ks (opsL n ks e).2.1 := by
  unfold opsL
  split
  · exact kp_opsR n
  · exact Kp.self
theorem kp_deep {ks : BL} {e : Nat} : Kp 1 ks (deepL false ks e).1 := by
  unfold deepL
  split
  · unfold deepR
    split
    · exact kp_pop
    · exact kp_snoc kp_pop _
  · exact kp_pop
theorem kp_rec {op : Nat} {ks : BL} {e : Nat} : Kp 3 ks (recL op ks e).2.1 := by
  unfold recL
  split
  · exact kp_snoc kp_ops _
  · split
    · exact (kp_snoc kp_ops _).mono (by decide)
    · split
      · exact Kp.self
      · split
        · exact kp_ops.mono (by decide)
        · exact (kp_snoc kp_ops _).mono (by decide)
theorem kp_alik {ks : BL} {e : Nat} : Kp 2 ks (alikL ks e).2.1 := by
  unfold alikL
  split
  · have := Kp.of (n := 2) (ks := ks) (m := ks.length - 2) (by omega) (by omega) []
    rwa [List.append_nil] at this
  · exact Kp.self
theorem kp_join {ks : BL} {e : Nat} : Kp 2 ks (joinL ks e).1 := by
  unfold joinL
  split
  · exact Kp.of (by omega) (by omega) _
  · exact Kp.self
theorem kp_hash {f : List UInt8 → List UInt8} {ks : BL} {e : Nat} : Kp 1 ks (hashL f ks e).1 := by
  unfold hashL
  split
  · exact Kp.of (by omega) (by omega) _
  · exact Kp.self
theorem kp_ifd {ks : BL} {e : Nat} : Kp 0 ks (ifdL ks e).1 := by
  unfold ifdL
  split
  · exact Kp.same _
  · exact Kp.self
theorem kp_siz {ks : BL} {e : Nat} : Kp 0 ks (sizL ks e).1 := by
  unfold sizL
  split
  · exact Kp.same _
  · exact Kp.self
theorem kp_back {ks js : BL} {e : Nat} : Kp 0 ks (backL ks js e).1 := by
  unfold backL
  split
  · exact Kp.self
  · exact Kp.same _
theorem kp_mov {op : Nat} {ks js : BL} {e : Nat} : Kp 6 ks (movL op ks js e).2.1 := by
  unfold movL
  by_cases c : op = 97
  · rw [if_pos c]; exact Kp.self
  rw [if_neg c]; clear c
  by_cases c : op = 107
  · rw [if_pos c]; exact kp_pop.mono (by decide)
  rw [if_neg c]; clear c
  by_cases c : op = 108
  · rw [if_pos c]; exact kp_back.mono (by decide)
  rw [if_neg c]; clear c
  by_cases c : op = 109
  · rw [if_pos c]; exact kp_shuf.mono (by decide)
  rw [if_neg c]; clear c
  by_cases c : op = 110
  · rw [if_pos c]; exact kp_shuf.mono (by decide)
  rw [if_neg c]; clear c
  by_cases c : op = 111
  · rw [if_pos c]; exact kp_shuf.mono (by decide)
  rw [if_neg c]; clear c
  by_cases c : op = 112
  · rw [if_pos c]; exact kp_shuf.mono (by decide)
  rw [if_neg c]; clear c
  by_cases c : op = 113
  · rw [if_pos c]; exact kp_shuf.mono (by decide)
  rw [if_neg c]; clear c
  by_cases c : op = 114
  · rw [if_pos c]; exact kp_shuf.mono (by decide)
  rw [if_neg c]; clear c
  by_cases c : op = 117
  · rw [if_pos c]; exact kp_shuf.mono (by decide)
  rw [if_neg c]; clear c
  by_cases c : op = 118
  · rw [if_pos c]; exact kp_shuf.mono (by decide)
  rw [if_neg c]; clear c
  by_cases c : op = 119
  · rw [if_pos c]; exact kp_shuf.mono (by decide)
  rw [if_neg c]; clear c
  by_cases c : op = 120
  · rw [if_pos c]; exact kp_shuf.mono (by decide)
  rw [if_neg c]; clear c
  by_cases c : op = 123
  · rw [if_pos c]; exact kp_shuf.mono (by decide)
  rw [if_neg c]; clear c
  by_cases c : op = 124
  · rw [if_pos c]; exact kp_shuf.mono (by decide)
  rw [if_neg c]; clear c
  by_cases c : op = 125
  · rw [if_pos c]; exact kp_shuf.mono (by decide)
  rw [if_neg c]; clear c
  exact Kp.self
theorem kp_red {op : Nat} {ks : BL} {e : Nat} (h : op ≠ 122) : Kp 6 ks (redL op ks e).2.1 := by
  unfold redL
  by_cases c : op = 121
  · rw [if_pos c]; exact kp_deep.mono (by decide)
  rw [if_neg c]; clear c
  by_cases c : op = 122
  · rw [if_pos c]; exact absurd c h
  rw [if_neg c]; clear c
  by_cases c : op = 105
  · rw [if_pos c]; exact kp_pop.mono (by decide)
  rw [if_neg c]; clear c
  by_cases c : op = 115
  · rw [if_pos c]; exact kp_ifd.mono (by decide)
  rw [if_neg c]; clear c
  by_cases c : op = 116
  · rw [if_pos c]; exact Kp.same _
  rw [if_neg c]; clear c
  by_cases c : op = 126
  · rw [if_pos c]; exact kp_join.mono (by decide)
  rw [if_neg c]; clear c
  by_cases c : op = 130
  · rw [if_pos c]; exact kp_siz.mono (by decide)
  rw [if_neg c]; clear c
  by_cases c : op = 135
  · rw [if_pos c]; exact (kp_snoc kp_alik _).mono (by decide)
  rw [if_neg c]; clear c
  by_cases c : op = 136
  · rw [if_pos c]; exact kp_alik.mono (by decide)
  rw [if_neg c]; clear c
  by_cases c : op = 168
  · rw [if_pos c]; exact kp_hash.mono (by decide)
  rw [if_neg c]; clear c
  by_cases c : op = 170
  · rw [if_pos c]; exact kp_hash.mono (by decide)
  rw [if_neg c]; clear c
  exact Kp.self
theorem mov_no {op : Nat} {ks js k1 j1 : BL} {e e1 : Nat} (h : movL op ks js e = (false, k1, j1, e1)) : k1 = ks ∧ j1 = js ∧ e1 = e := by
  unfold movL at h
  by_cases c : op = 97
  · rw [if_pos c] at h; exact absurd (congrArg Prod.fst h) (fun h => by cases h)
  rw [if_neg c] at h; clear c
  by_cases c : op = 107
  · rw [if_pos c] at h; exact absurd (congrArg Prod.fst h) (fun h => by cases h)
  rw [if_neg c] at h; clear c
  by_cases c : op = 108
  · rw [if_pos c] at h; exact absurd (congrArg Prod.fst h) (fun h => by cases h)
  rw [if_neg c] at h; clear c
  by_cases c : op = 109
  · rw [if_pos c] at h; exact absurd (congrArg Prod.fst h) (fun h => by cases h)
  rw [if_neg c] at h; clear c
  by_cases c : op = 110
  · rw [if_pos c] at h; exact absurd (congrArg Prod.fst h) (fun h => by cases h)
  rw [if_neg c] at h; clear c
  by_cases c : op = 111
  · rw [if_pos c] at h; exact absurd (congrArg Prod.fst h) (fun h => by cases h)
  rw [if_neg c] at h; clear c
  by_cases c : op = 112
  · rw [if_pos c] at h; exact absurd (congrArg Prod.fst h) (fun h => by cases h)
  rw [if_neg c] at h; clear c
  by_cases c : op = 113
  · rw [if_pos c] at h; exact absurd (congrArg Prod.fst h) (fun h => by cases h)
  rw [if_neg c] at h; clear c
  by_cases c : op = 114
  · rw [if_pos c] at h; exact absurd (congrArg Prod.fst h) (fun h => by cases h)
  rw [if_neg c] at h; clear c
  by_cases c : op = 117
  · rw [if_pos c] at h; exact absurd (congrArg Prod.fst h) (fun h => by cases h)
  rw [if_neg c] at h; clear c
  by_cases c : op = 118
  · rw [if_pos c] at h; exact absurd (congrArg Prod.fst h) (fun h => by cases h)
  rw [if_neg c] at h; clear c
  by_cases c : op = 119
  · rw [if_pos c] at h; exact absurd (congrArg Prod.fst h) (fun h => by cases h)
  rw [if_neg c] at h; clear c
  by_cases c : op = 120
  · rw [if_pos c] at h; exact absurd (congrArg Prod.fst h) (fun h => by cases h)
  rw [if_neg c] at h; clear c
  by_cases c : op = 123
  · rw [if_pos c] at h; exact absurd (congrArg Prod.fst h) (fun h => by cases h)
  rw [if_neg c] at h; clear c
  by_cases c : op = 124
  · rw [if_pos c] at h; exact absurd (congrArg Prod.fst h) (fun h => by cases h)
  rw [if_neg c] at h; clear c
  by_cases c : op = 125
  · rw [if_pos c] at h; exact absurd (congrArg Prod.fst h) (fun h => by cases h)
  rw [if_neg c] at h; clear c
  obtain ⟨_, h1, h2, h3⟩ := inj4 h
  exact ⟨h1.symm, h2.symm, h3.symm⟩
theorem red_no {op : Nat} {ks k1 : BL} {e e1 : Nat} (h : redL op ks e = (false, k1, e1)) : k1 = ks ∧ e1 = e := by
  unfold redL at h
  by_cases c : op = 121
  · rw [if_pos c] at h; exact absurd (congrArg Prod.fst h) (fun h => by cases h)
  rw [if_neg c] at h; clear c
  by_cases c : op = 122
  · rw [if_pos c] at h; exact absurd (congrArg Prod.fst h) (fun h => by cases h)
  rw [if_neg c] at h; clear c
  by_cases c : op = 105
  · rw [if_pos c] at h; exact absurd (congrArg Prod.fst h) (fun h => by cases h)
  rw [if_neg c] at h; clear c
  by_cases c : op = 115
  · rw [if_pos c] at h; exact absurd (congrArg Prod.fst h) (fun h => by cases h)
  rw [if_neg c] at h; clear c
  by_cases c : op = 116
  · rw [if_pos c] at h; exact absurd (congrArg Prod.fst h) (fun h => by cases h)
  rw [if_neg c] at h; clear c
  by_cases c : op = 126
  · rw [if_pos c] at h; exact absurd (congrArg Prod.fst h) (fun h => by cases h)
  rw [if_neg c] at h; clear c
  by_cases c : op = 130
  · rw [if_pos c] at h; exact absurd (congrArg Prod.fst h) (fun h => by cases h)
  rw [if_neg c] at h; clear c
  by_cases c : op = 135
  · rw [if_pos c] at h; exact absurd (congrArg Prod.fst h) (fun h => by cases h)
  rw [if_neg c] at h; clear c
  by_cases c : op = 136
  · rw [if_pos c] at h; exact absurd (congrArg Prod.fst h) (fun h => by cases h)
  rw [if_neg c] at h; clear c
  by_cases c : op = 168
  · rw [if_pos c] at h; exact absurd (congrArg Prod.fst h) (fun h => by cases h)
  rw [if_neg c] at h; clear c
  by_cases c : op = 170
  · rw [if_pos c] at h; exact absurd (congrArg Prod.fst h) (fun h => by cases h)
  rw [if_neg c] at h; clear c
  obtain ⟨_, h1, h2⟩ := inj3 h
  exact ⟨h1.symm, h2.symm⟩
theorem below {op : Nat} {ks js k j : BL} (h : doL op ks js = (k, j, 0)) (ho : op ≠ 122) : ks.length - 6 ≤ k.length ∧ k.take (ks.length - 6) = ks.take (ks.length - 6) := by
  obtain ⟨h1, _⟩ := do_inv h
  rcases h1 with h1 | ⟨k1, e1, h1, h2⟩
  · have := kp_mov (op := op) (ks := ks) (js := js) (e := 0)
    rw [h1] at this
    exact this
  · obtain ⟨rfl, _, rfl⟩ := mov_no h1
    rcases h2 with h2 | ⟨k2, e2, h2, h3⟩
    · have := kp_red (ks := k1) (e := 0) ho
      rw [h2] at this
      exact this
    · obtain ⟨rfl, rfl⟩ := red_no h2
      have := (kp_rec (op := op) (ks := k2) (e := 0)).mono (m := 6) (by decide)
      rw [h3] at this
      exact this
end Go.Proofs.Ytikkhkjndbicgaa

/- Stacks: the laws of what lies below, and of numbers. -/
namespace Go.Proofs.Ytikkhkjndbicgaa
open Go.RowKit
set_option maxRecDepth 10000
set_option maxHeartbeats 1000000
theorem same1n_c (a1 : Option Addr) (n1 c1 : Nat) (v1 : List Value) (k1 : BL) (a2 : Option Addr) (n2 c2 : Nat) (v2 : List Value) (k2 : BL) (q : Bool) (hq : decide (k1 = k2) = q) (h1 : n1 = k1.length) (h2 : n2 = k2.length) (w0 : World) (Z : Nat → Prop) (hV1 : CelV w0 Z (.slice a1 n1 c1) n1 v1) (hY1 : BysV w0 Z v1 k1) (hV2 : CelV w0 Z (.slice a2 n2 c2) n2 v2) (hY2 : BysV w0 Z v2 k2) : Calls Try.prog 17 #[.slice a1 n1 c1, .slice a2 n2 c2] w0 fun e w' => Ret w0 Z (ρ := Unit) (fun _ => .bool q) (fun _ => []) e w' := by
  subst h1; subst h2
  exact same1_c a1 c1 v1 k1 a2 c2 v2 k2 q hq w0 Z hV1 hY1 hV2 hY2
theorem BysV.take {w : World} {Z : Nat → Prop} {vs : List Value} {ks : BL} (h : BysV w Z vs ks) (n : Nat) : BysV w Z (vs.take n) (ks.take n) :=
  bysv_iff.2 ⟨by simp [h.1], fun p hp => (bysv_iff.1 h).2 p (zip_take n p hp)⟩
theorem St.celHi {a : Act} {w : World} {n : Nat} {w0 : Bs} {fs : List Sl} {bs : List Bl} (hs : St n w0 fs bs a w) (k h : Nat) {ad : Option Addr} {N c : Nat} {vs : List Value} (hk : w0.S[k]? = some (true, .cel (.slice ad N c) N vs)) (hh : h ≤ N) : CelV w (fun _ => True) (.slice ad h c) h (vs.take h) := by
  have h1 := celv_part 1 0 h (hs.row (k := k) (by unfold rowAt; rw [hk])) (Nat.zero_le _) hh
  rw [vsl_hi, Nat.zero_mul, List.drop_zero, Nat.sub_zero, Nat.mul_one] at h1
  exact h1
theorem below_law (op : Nat) (am : Option Addr) (cm : Nat) (vs : List Value) (aa : Option Addr) (ca : Nat) (us : List Value) (ks js : BL) (w0 : World) (Z : Nat → Prop) (hV : CelV w0 Z (.slice am ks.length cm) ks.length vs) (hY : BysV w0 Z vs ks) (hU : CelV w0 Z (.slice aa js.length ca) js.length us) (hX : BysV w0 Z us js): Calls Try.prog 5 #[.int .u8 ((op : Nat) : Int), .agg #[.slice am ks.length cm, .slice aa js.length ca]] w0 fun e w' => Ret w0 Z (ρ := Unit) (fun r => .bool true) (fun r => []) e w' := by
  refine enterS (n := 66) (args := [.int .u8 ((op : Nat) : Int), .agg #[.slice am ks.length cm, .slice aa js.length ca]]) (S := [(true, .cel (.slice am ks.length cm) ks.length vs), (true, .bys vs ks), (true, .cel (.slice aa js.length ca) js.length us), (true, .bys us js)]) (Z := Z) Try.func5 rfl rfl (Nat.le_of_ble_eq_true rfl) (sokC hV (sokC hY (sokC hU (sokC hX sok0)))) rfl fun ac hs => ?_
  refine wp_seq ?_
  refine wp_region_lit ?_
  refine lstep (wpO_plain rfl (op_box hs none none (cs := [.slice am ks.length cm, .slice aa js.length ca]) rfl rfl rfl rfl rfl rfl fun g1 ac w hs => ?_))
  refine lstep (wpO_plain rfl (op_assign hs none rfl rfl rfl rfl fun ac hs => ?_))
  refine wpList_nil ?_
  refine then_n ?_
  refine wp_seq ?_
  refine wp_seq ?_
  refine wp_region_lit ?_
  refine lstep (wpO_plain rfl (op_load hs none 0 (v := .agg #[.slice am ks.length cm, .slice aa js.length ca]) rfl rfl rfl rfl Try.isAgg24 Try.sizeOf24 rfl rfl fun ac hs => ?_))
  obtain ⟨q2, hq2⟩ : ∃ z0, smallS ks js = z0 := ⟨_, rfl⟩
  refine lstep (wpO_plain rfl (op_callV (F := 8) (ρ := Unit) hs none none (v := fun r => .bool q2) (E := fun r => []) (j := 0) rfl rfl rfl rfl (Try.call8 _) (fun hs => small_c am cm vs aa ca us ks js q2 hq2 _ _ (hs.celT (k := 0) rfl) (hs.rowB (k := 1) (G := noX) (.inr rfl)) (hs.celT (k := 2) rfl) (hs.rowB (k := 3) (G := noX) (.inr rfl))) (fun _ => rfl) (fun _ => rfl) rfl rfl fun _ ac w hs => ?_))
  refine lstep (wpO_plain rfl (op_un hs none (v := .bool (!q2)) rfl rfl rfl (fun _ => rfl) rfl fun ac hs => ?_))
  refine wpList_nil ?_
  refine then_n ?_
  refine wp_cond_split (hs.ev rfl) (fun hc => ?_) (fun hc => ?_)
  · skip
    refine wp_seq ?_
    refine wp_region_lit ?_
    refine lstep (wpO_plain rfl (op_callV (F := 9) (ρ := Unit) hs none none (v := fun r => .bool true) (E := fun r => []) (j := 0) rfl rfl rfl rfl (Try.call9 _) (fun hs => alive_c _ _) (fun _ => rfl) (fun _ => rfl) rfl rfl fun _ ac w hs => ?_))
    refine lstep (wpO_plain rfl (op_assign hs none rfl rfl rfl rfl fun ac hs => ?_))
    refine wpList_nil ?_
    refine then_n ?_
    refine wp_ret ?_
    refine then_r ?_
    exact bodyPost_ret (res1 rfl (rv_t hs rfl)) hs.defers ⟨(), rfl, hs.bel rfl, okl0⟩
  · skip
    obtain ⟨ok, oj⟩ := small_ok (hq2.trans (show q2 = true by simpa using hc))
    have hkl : ks.length ≤ 600 := ok.1
    refine wp_skip ?_
    refine then_n ?_
    refine wp_seq ?_
    refine wp_region_lit ?_
    refine lstep (wpO_plain rfl (op_move hs none rfl rfl rfl rfl fun ac hs => ?_))
    refine lstep (wpO_plain rfl (op_load hs none 0 (v := .agg #[.slice am ks.length cm, .slice aa js.length ca]) rfl rfl rfl rfl Try.isAgg24 Try.sizeOf24 rfl rfl fun ac hs => ?_))
    obtain ⟨ks3, js4, e5, hks3⟩ : ∃ z0 z1 z2, doL op ks js = (z0, z1, z2) := ⟨_, _, _, rfl⟩
    refine lstep (wpO_plain rfl (op_callX (F := 11) (ρ := M2) hs none none [] [0, 1, 2, 3] (v := fun r => .tuple #[.agg #[.slice r.a ks3.length r.c, .slice r.b js4.length r.d], .int .i64 ((e5 : Nat) : Int)]) (S1 := [(true, .cel (.slice am ks.length cm) ks.length vs), (true, .bys vs ks), (true, .cel (.slice aa js.length ca) js.length us), (true, .bys us js)]) (bs1 := []) (E := fun r => [(true, .cel (.slice am ks.length cm) ks.length vs), (true, .bys vs ks), (true, .cel (.slice aa js.length ca) js.length us), (true, .bys us js), (true, .own (.slice r.a ks3.length r.c) 34 1 ks3.length r.vs), (true, .own (.slice r.b js4.length r.d) 34 1 js4.length r.us), (true, .bysO r.G (r.vs ++ r.us ++ ([])) (ks3 ++ js4 ++ ([])))]) (E1 := fun r => [(true, .cel (.slice am ks.length cm) ks.length vs), (true, .bys vs ks), (true, .cel (.slice aa js.length ca) js.length us), (true, .bys us js)]) (E2 := fun r => [.own (.slice r.a ks3.length r.c) 34 1 ks3.length r.vs, .own (.slice r.b js4.length r.d) 34 1 js4.length r.us, .bysO r.G (r.vs ++ r.us ++ ([])) (ks3 ++ js4 ++ ([]))]) (bfA := fun r => []) (bf := fun r => []) (bf2 := fun r => []) rfl rfl rfl rfl rfl (Try.call11 _) rfl rfl (by decide) (by decide) (fun Z X hm => do_c am cm vs aa ca us ks js op ks3 js4 e5 (ok.mono (by decide)) (oj.mono (by decide)) hks3 _ _ _ hm) (fun _ => rfl) (fun _ => rfl) (fun _ => rfl) (fun _ => rfl) (fun _ => rfl) rfl fun ⟨ad6, cp7, vs8, ad9, cp10, us11, G12⟩ ac w hs => ?_))
    refine lstep (wpO_plain rfl (op_move hs none rfl rfl rfl rfl fun ac hs => ?_))
    refine lstep (wpO_plain rfl (op_extract hs none rfl rfl rfl rfl rfl fun ac hs => ?_))
    refine lstep (wpO_plain rfl (op_extract hs none rfl rfl rfl rfl rfl fun ac hs => ?_))
    refine lstep (wpO_plain rfl (op_alloc hs none none (cs := [.slice none 0 0, .slice none 0 0]) rfl rfl Try.zeroValue24 (by kernel_rfl) rfl rfl fun g13 ac w hs => ?_))
    refine lstep (wpO_plain rfl (op_store hs 1 (vs := [.slice ad6 ks3.length cp7, .slice ad9 js4.length cp10]) rfl rfl rfl rfl rfl Try.sizeOf24 rfl rfl rfl rfl rfl fun w hs => ?_))
    refine lstep (wpO_plain rfl (op_assign hs none rfl rfl rfl rfl fun ac hs => ?_))
    refine wpList_nil ?_
    replace hs : St 66 ⟨w0, [], [(true, .cel (.slice am ks.length cm) ks.length vs), (true, .bys vs ks), (true, .cel (.slice aa js.length ca) js.length us), (true, .bys us js), (true, .own (.slice ad6 ks3.length cp7) 34 1 ks3.length vs8), (true, .own (.slice ad9 js4.length cp10) 34 1 js4.length us11), (true, .bysO G12 (vs8 ++ us11 ++ ([])) (ks3 ++ js4 ++ ([])))], Z, noX⟩ [(0, true, .int .u8 ((op : Nat) : Int)), (3, true, .pointer (some ⟨g1, 0, none⟩)), (4, true, .bool false), (13, true, .int .u8 ((op : Nat) : Int)), (14, true, .agg #[.slice am ks.length cm, .slice aa js.length ca]), (15, true, .tuple #[.agg #[.slice ad6 ks3.length cp7, .slice ad9 js4.length cp10], .int .i64 ((e5 : Nat) : Int)]), (12, true, .tuple #[.agg #[.slice ad6 ks3.length cp7, .slice ad9 js4.length cp10], .int .i64 ((e5 : Nat) : Int)]), (16, true, .agg #[.slice ad6 ks3.length cp7, .slice ad9 js4.length cp10]), (17, true, .int .i64 ((e5 : Nat) : Int)), (5, true, .pointer (some ⟨g13, 0, none⟩)), (6, true, .int .i64 ((e5 : Nat) : Int))] [(true, g1, 24, [.slice am ks.length cm, .slice aa js.length ca]), (true, g13, 24, [.slice ad6 ks3.length cp7, .slice ad9 js4.length cp10])] ac _ := hs.re ⟨rfl, rfl, rfl, rfl, rfl, rfl, rfl, rfl, rfl, rfl, rfl, trivial⟩
    have hl14 := hs.ownLen 4 rfl
    replace hs := hs.freeze 4 rfl
    have hl15 := hs.ownLen 5 rfl
    replace hs := hs.freeze 5 rfl
    replace hs := hs.freezeB 6 rfl
    replace hs := hs.splitY 6 rfl hl14 hl15
    replace hs : St 66 ⟨w0, [], [(true, .cel (.slice am ks.length cm) ks.length vs), (true, .bys vs ks), (true, .cel (.slice aa js.length ca) js.length us), (true, .bys us js), (true, .cel (.slice ad6 ks3.length cp7) ks3.length vs8), (true, .cel (.slice ad9 js4.length cp10) js4.length us11), (true, .bys (vs8 ++ us11 ++ ([])) (ks3 ++ js4 ++ ([]))), (true, .bys vs8 ks3), (true, .bys us11 js4)], Z, noX⟩ [(0, true, .int .u8 ((op : Nat) : Int)), (3, true, .pointer (some ⟨g1, 0, none⟩)), (4, true, .bool false), (13, true, .int .u8 ((op : Nat) : Int)), (14, true, .agg #[.slice am ks.length cm, .slice aa js.length ca]), (15, true, .tuple #[.agg #[.slice ad6 ks3.length cp7, .slice ad9 js4.length cp10], .int .i64 ((e5 : Nat) : Int)]), (12, true, .tuple #[.agg #[.slice ad6 ks3.length cp7, .slice ad9 js4.length cp10], .int .i64 ((e5 : Nat) : Int)]), (16, true, .agg #[.slice ad6 ks3.length cp7, .slice ad9 js4.length cp10]), (17, true, .int .i64 ((e5 : Nat) : Int)), (5, true, .pointer (some ⟨g13, 0, none⟩)), (6, true, .int .i64 ((e5 : Nat) : Int))] [(true, g1, 24, [.slice am ks.length cm, .slice aa js.length ca]), (true, g13, 24, [.slice ad6 ks3.length cp7, .slice ad9 js4.length cp10])] ac _ := hs.re ⟨rfl, rfl, rfl, rfl, rfl, rfl, rfl, rfl, rfl, rfl, rfl, trivial⟩
    refine then_n ?_
    refine wp_seq ?_
    refine wp_seq ?_
    refine wp_region_lit ?_
    refine lstep (wpO_plain rfl (op_move hs none rfl rfl rfl rfl fun ac hs => ?_))
    refine lstep (wpO_plain rfl (op_bin hs none (v := .bool (decide (e5 ≠ 0))) rfl rfl rfl rfl (fun _ => rfl) (bin_neqN (x := e5) (y := 0)) rfl fun ac hs => ?_))
    refine wpList_nil ?_
    refine then_n ?_
    refine wp_cond_split (hs.ev rfl) (fun hc => ?_) (fun hc => ?_)
    · skip
      have hp16 := of_decide_eq_true hc
      have he0 := of_decide_eq_true hc
      have hk0 : ks3.length = 0 := by rw [(do_err hks3 he0).1]; rfl
      have hj0 : js4.length = 0 := by rw [(do_err hks3 he0).2]; rfl
      refine wp_seq ?_
      refine wp_region_lit ?_
      refine lstep (wpO_plain rfl (op_callV (F := 9) (ρ := Unit) hs none none (v := fun r => .bool true) (E := fun r => []) (j := 0) rfl rfl rfl rfl (Try.call9 _) (fun hs => alive_c _ _) (fun _ => rfl) (fun _ => rfl) rfl rfl fun _ ac w hs => ?_))
      refine lstep (wpO_plain rfl (op_move hs none rfl rfl rfl rfl fun ac hs => ?_))
      refine lstep (wpO_in hs rfl rfl rfl (op_fieldA hs none rfl rfl rfl Try.underlying24 rfl Try.sizeOf22 (by decide) rfl fun ac hs => ?_))
      refine lstep (wpO_in hs rfl rfl rfl (op_load hs none 1 (v := .slice ad6 ks3.length cp7) rfl rfl rfl rfl Try.isAgg22 Try.sizeOf22 rfl rfl fun ac hs => ?_))
      refine lstep (wpO_in hs rfl rfl rfl (op_blt hs none (v := .int .i64 ((ks3.length : Nat) : Int)) rfl rfl rfl (blt_len Try.underlying22) rfl fun ac hs => ?_))
      refine lstep (wpO_in hs rfl rfl rfl (op_bin hs none (v := .bool true) rfl rfl rfl rfl (fun _ => rfl) (fun w => dT hk0 (bin_eqlN (x := ks3.length) (y := 0) w)) rfl fun ac hs => ?_))
      refine lstep (wpO_plain rfl (op_pickT hs none rfl rfl rfl rfl rfl fun ac hs => ?_))
      refine lstep (wpO_plain rfl (op_move hs none rfl rfl rfl rfl fun ac hs => ?_))
      refine lstep (wpO_in hs rfl rfl rfl (op_fieldA hs none rfl rfl rfl Try.underlying24 rfl Try.sizeOf22 (by decide) rfl fun ac hs => ?_))
      refine lstep (wpO_in hs rfl rfl rfl (op_load hs none 1 (v := .slice ad9 js4.length cp10) rfl rfl rfl rfl Try.isAgg22 Try.sizeOf22 rfl rfl fun ac hs => ?_))
      refine lstep (wpO_in hs rfl rfl rfl (op_blt hs none (v := .int .i64 ((js4.length : Nat) : Int)) rfl rfl rfl (blt_len Try.underlying22) rfl fun ac hs => ?_))
      refine lstep (wpO_in hs rfl rfl rfl (op_bin hs none (v := .bool true) rfl rfl rfl rfl (fun _ => rfl) (fun w => dT hj0 (bin_eqlN (x := js4.length) (y := 0) w)) rfl fun ac hs => ?_))
      refine lstep (wpO_plain rfl (op_pickT hs none rfl rfl rfl rfl rfl fun ac hs => ?_))
      refine lstep (wpO_plain rfl (op_assign hs none rfl rfl rfl rfl fun ac hs => ?_))
      refine wpList_nil ?_
      refine then_n ?_
      refine wp_ret ?_
      refine then_r ?_
      exact bodyPost_ret (res1 rfl (rv_t hs rfl)) hs.defers ⟨(), rfl, hs.bel rfl, okl0⟩
    · skip
      have hp17 := of_decide_eq_false hc
      have he0 : e5 = 0 := Classical.not_not.1 (of_decide_eq_false hc)
      rw [he0] at hks3
      have hchk := do_chk hks3
      have hk9 : ks3.length ≤ 1000 := (do_ok hks3).1.1
      refine wp_skip ?_
      refine then_n ?_
      refine wp_seq ?_
      refine wp_seq ?_
      refine wp_region_lit ?_
      refine lstep (wpO_plain rfl (op_load hs none 1 (v := .agg #[.slice ad6 ks3.length cp7, .slice ad9 js4.length cp10]) rfl rfl rfl rfl Try.isAgg24 Try.sizeOf24 rfl rfl fun ac hs => ?_))
      obtain ⟨r18, hr18⟩ : ∃ z0, chkL ks3 js4 = z0 := ⟨_, rfl⟩
      refine lstep (wpO_plain rfl (op_callV (F := 16) (ρ := Unit) hs none none (v := fun r => .int .i64 ((r18 : Nat) : Int)) (E := fun r => []) (j := 0) rfl rfl rfl rfl (Try.call16 _) (fun hs => check_c ad6 cp7 vs8 ad9 cp10 us11 ks3 js4 r18 (Nat.le_trans (show OkN 8000 ks3 from ((do_ok hks3).1.mono (by decide))).1 (by decide)) (Nat.le_trans (show OkN 8000 js4 from ((do_ok hks3).2.mono (by decide))).1 (by decide)) hr18 _ _ (hs.celT (k := 4) rfl) (hs.rowB (k := 7) (G := noX) (.inr rfl)) (hs.celT (k := 5) rfl) (hs.rowB (k := 8) (G := noX) (.inr rfl))) (fun _ => rfl) (fun _ => rfl) rfl rfl fun _ ac w hs => ?_))
      refine lstep (wpO_plain rfl (op_bin hs none (v := .bool false) rfl rfl rfl rfl (fun _ => rfl) (fun w => dF (fun h => h (hr18.symm.trans hchk)) (bin_neqN (x := r18) (y := 0) w)) rfl fun ac hs => ?_))
      refine wpList_nil ?_
      refine then_n ?_
      refine wp_cond_false (hs.ev rfl) ?_
      refine wp_skip ?_
      refine then_n ?_
      refine wp_seq ?_
      by_cases hq19 : 6 ≤ ks.length
      · skip
        refine wp_region_lit ?_
        refine lstep (wpO_plain rfl (op_fieldA hs none rfl rfl rfl Try.underlying24 rfl Try.sizeOf22 (by decide) rfl fun ac hs => ?_))
        refine lstep (wpO_plain rfl (op_load hs none 0 (v := .slice am ks.length cm) rfl rfl rfl rfl Try.isAgg22 Try.sizeOf22 rfl rfl fun ac hs => ?_))
        refine lstep (wpO_plain rfl (op_blt hs none (v := .int .i64 ((ks.length : Nat) : Int)) rfl rfl rfl (blt_len Try.underlying22) rfl fun ac hs => ?_))
        refine lstep (wpO_plain rfl (op_bin hs none (v := .int .i64 ((ks.length - 6 : Nat) : Int)) rfl rfl rfl rfl (fun _ => rfl) (bin_subN (x := ks.length) (y := 6) (z := ks.length - 6) (by omega) (show ks.length - 6 < 9223372036854775808 by omega)) rfl fun ac hs => ?_))
        refine lstep (wpO_plain rfl (op_assign hs none rfl rfl rfl rfl fun ac hs => ?_))
        refine wpList_nil ?_
        refine then_n ?_
        refine wp_seq ?_
        refine wp_seq ?_
        by_cases hq20 : ks.length - 6 ≤ 0
        · skip
          replace hs : St 66 ⟨w0, [], [(true, .cel (.slice am ks.length cm) ks.length vs), (true, .bys vs ks), (true, .cel (.slice aa js.length ca) js.length us), (true, .bys us js), (true, .cel (.slice ad6 ks3.length cp7) ks3.length vs8), (true, .cel (.slice ad9 js4.length cp10) js4.length us11), (true, .bys (vs8 ++ us11 ++ ([])) (ks3 ++ js4 ++ ([]))), (true, .bys vs8 ks3), (true, .bys us11 js4)], Z, noX⟩ [(0, true, .int .u8 ((op : Nat) : Int)), (3, true, .pointer (some ⟨g1, 0, none⟩)), (4, true, .bool false), (5, true, .pointer (some ⟨g13, 0, none⟩)), (7, true, .int .i64 ((ks.length - 6 : Nat) : Int))] [(true, g1, 24, [.slice am ks.length cm, .slice aa js.length ca]), (true, g13, 24, [.slice ad6 ks3.length cp7, .slice ad9 js4.length cp10])] ac _ := hs.re ⟨rfl, rfl, rfl, rfl, rfl, trivial⟩
          refine wp_region_lit ?_
          refine lstep (wpO_plain rfl (op_move hs none rfl rfl rfl rfl fun ac hs => ?_))
          refine lstep (wpO_plain rfl (op_bin hs none (v := .bool true) rfl rfl rfl rfl (fun _ => rfl) (fun w => dT hq20 (bin_leqN (x := ks.length - 6) (y := 0) w)) rfl fun ac hs => ?_))
          refine lstep (wpO_plain rfl (op_move hs none rfl rfl rfl rfl fun ac hs => ?_))
          refine lstep (wpO_out hs none rfl rfl (.inl rfl) rfl rfl fun ac hs => ?_)
          refine lstep (wpO_out hs none rfl rfl (.inl rfl) rfl rfl fun ac hs => ?_)
          refine lstep (wpO_plain rfl (op_pickT hs none rfl rfl rfl rfl rfl fun ac hs => ?_))
          refine wpList_nil ?_
          refine then_n ?_
          refine wp_cond_true (hs.ev rfl) ?_
          refine wp_seq ?_
          refine wp_region_lit ?_
          refine lstep (wpO_plain rfl (op_callV (F := 9) (ρ := Unit) hs none none (v := fun r => .bool true) (E := fun r => []) (j := 0) rfl rfl rfl rfl (Try.call9 _) (fun hs => alive_c _ _) (fun _ => rfl) (fun _ => rfl) rfl rfl fun _ ac w hs => ?_))
          refine lstep (wpO_plain rfl (op_assign hs none rfl rfl rfl rfl fun ac hs => ?_))
          refine wpList_nil ?_
          refine then_n ?_
          refine wp_ret ?_
          refine then_r ?_
          exact bodyPost_ret (res1 rfl (rv_t hs rfl)) hs.defers ⟨(), rfl, hs.bel rfl, okl0⟩
        · skip
          by_cases hq21 : op = 122
          · skip
            replace hs : St 66 ⟨w0, [], [(true, .cel (.slice am ks.length cm) ks.length vs), (true, .bys vs ks), (true, .cel (.slice aa js.length ca) js.length us), (true, .bys us js), (true, .cel (.slice ad6 ks3.length cp7) ks3.length vs8), (true, .cel (.slice ad9 js4.length cp10) js4.length us11), (true, .bys (vs8 ++ us11 ++ ([])) (ks3 ++ js4 ++ ([]))), (true, .bys vs8 ks3), (true, .bys us11 js4)], Z, noX⟩ [(0, true, .int .u8 ((op : Nat) : Int)), (3, true, .pointer (some ⟨g1, 0, none⟩)), (4, true, .bool false), (5, true, .pointer (some ⟨g13, 0, none⟩)), (7, true, .int .i64 ((ks.length - 6 : Nat) : Int))] [(true, g1, 24, [.slice am ks.length cm, .slice aa js.length ca]), (true, g13, 24, [.slice ad6 ks3.length cp7, .slice ad9 js4.length cp10])] ac _ := hs.re ⟨rfl, rfl, rfl, rfl, rfl, trivial⟩
            refine wp_region_lit ?_
            refine lstep (wpO_plain rfl (op_move hs none rfl rfl rfl rfl fun ac hs => ?_))
            refine lstep (wpO_plain rfl (op_bin hs none (v := .bool false) rfl rfl rfl rfl (fun _ => rfl) (fun w => dF hq20 (bin_leqN (x := ks.length - 6) (y := 0) w)) rfl fun ac hs => ?_))
            refine lstep (wpO_plain rfl (op_move hs none rfl rfl rfl rfl fun ac hs => ?_))
            refine lstep (wpO_in hs rfl rfl rfl (op_move hs none rfl rfl rfl rfl fun ac hs => ?_))
            refine lstep (wpO_in hs rfl rfl rfl (op_bin hs none (v := .bool true) rfl rfl rfl rfl (fun _ => rfl) (fun w => dT hq21 (bin_eqlN (x := op) (y := 122) w)) rfl fun ac hs => ?_))
            refine lstep (wpO_plain rfl (op_pickF hs none rfl rfl rfl rfl rfl fun ac hs => ?_))
            refine wpList_nil ?_
            refine then_n ?_
            refine wp_cond_true (hs.ev rfl) ?_
            refine wp_seq ?_
            replace hs : St 66 ⟨w0, [], [(true, .cel (.slice am ks.length cm) ks.length vs), (true, .bys vs ks), (true, .cel (.slice aa js.length ca) js.length us), (true, .bys us js), (true, .cel (.slice ad6 ks3.length cp7) ks3.length vs8), (true, .cel (.slice ad9 js4.length cp10) js4.length us11), (true, .bys (vs8 ++ us11 ++ ([])) (ks3 ++ js4 ++ ([]))), (true, .bys vs8 ks3), (true, .bys us11 js4)], Z, noX⟩ [(3, true, .pointer (some ⟨g1, 0, none⟩)), (4, true, .bool false), (5, true, .pointer (some ⟨g13, 0, none⟩)), (7, true, .int .i64 ((ks.length - 6 : Nat) : Int))] [(true, g1, 24, [.slice am ks.length cm, .slice aa js.length ca]), (true, g13, 24, [.slice ad6 ks3.length cp7, .slice ad9 js4.length cp10])] ac _ := hs.re ⟨rfl, rfl, rfl, rfl, trivial⟩
            refine wp_region_lit ?_
            refine lstep (wpO_plain rfl (op_callV (F := 9) (ρ := Unit) hs none none (v := fun r => .bool true) (E := fun r => []) (j := 0) rfl rfl rfl rfl (Try.call9 _) (fun hs => alive_c _ _) (fun _ => rfl) (fun _ => rfl) rfl rfl fun _ ac w hs => ?_))
            refine lstep (wpO_plain rfl (op_assign hs none rfl rfl rfl rfl fun ac hs => ?_))
            refine wpList_nil ?_
            refine then_n ?_
            refine wp_ret ?_
            refine then_r ?_
            exact bodyPost_ret (res1 rfl (rv_t hs rfl)) hs.defers ⟨(), rfl, hs.bel rfl, okl0⟩
          · skip
            have hbl := below hks3 hq21
            have hbl1 := hbl.1
            replace hs : St 66 ⟨w0, [], [(true, .cel (.slice am ks.length cm) ks.length vs), (true, .bys vs ks), (true, .cel (.slice aa js.length ca) js.length us), (true, .bys us js), (true, .cel (.slice ad6 ks3.length cp7) ks3.length vs8), (true, .cel (.slice ad9 js4.length cp10) js4.length us11), (true, .bys (vs8 ++ us11 ++ ([])) (ks3 ++ js4 ++ ([]))), (true, .bys vs8 ks3), (true, .bys us11 js4)], Z, noX⟩ [(0, true, .int .u8 ((op : Nat) : Int)), (3, true, .pointer (some ⟨g1, 0, none⟩)), (4, true, .bool false), (5, true, .pointer (some ⟨g13, 0, none⟩)), (7, true, .int .i64 ((ks.length - 6 : Nat) : Int))] [(true, g1, 24, [.slice am ks.length cm, .slice aa js.length ca]), (true, g13, 24, [.slice ad6 ks3.length cp7, .slice ad9 js4.length cp10])] ac _ := hs.re ⟨rfl, rfl, rfl, rfl, rfl, trivial⟩
            refine wp_region_lit ?_
            refine lstep (wpO_plain rfl (op_move hs none rfl rfl rfl rfl fun ac hs => ?_))
            refine lstep (wpO_plain rfl (op_bin hs none (v := .bool false) rfl rfl rfl rfl (fun _ => rfl) (fun w => dF hq20 (bin_leqN (x := ks.length - 6) (y := 0) w)) rfl fun ac hs => ?_))
            refine lstep (wpO_plain rfl (op_move hs none rfl rfl rfl rfl fun ac hs => ?_))
            refine lstep (wpO_in hs rfl rfl rfl (op_move hs none rfl rfl rfl rfl fun ac hs => ?_))
            refine lstep (wpO_in hs rfl rfl rfl (op_bin hs none (v := .bool false) rfl rfl rfl rfl (fun _ => rfl) (fun w => dF hq21 (bin_eqlN (x := op) (y := 122) w)) rfl fun ac hs => ?_))
            refine lstep (wpO_plain rfl (op_pickF hs none rfl rfl rfl rfl rfl fun ac hs => ?_))
            refine wpList_nil ?_
            refine then_n ?_
            refine wp_cond_false (hs.ev rfl) ?_
            refine wp_skip ?_
            refine then_n ?_
            refine wp_seq ?_
            replace hs : St 66 ⟨w0, [], [(true, .cel (.slice am ks.length cm) ks.length vs), (true, .bys vs ks), (true, .cel (.slice aa js.length ca) js.length us), (true, .bys us js), (true, .cel (.slice ad6 ks3.length cp7) ks3.length vs8), (true, .cel (.slice ad9 js4.length cp10) js4.length us11), (true, .bys (vs8 ++ us11 ++ ([])) (ks3 ++ js4 ++ ([]))), (true, .bys vs8 ks3), (true, .bys us11 js4)], Z, noX⟩ [(3, true, .pointer (some ⟨g1, 0, none⟩)), (4, true, .bool false), (5, true, .pointer (some ⟨g13, 0, none⟩)), (7, true, .int .i64 ((ks.length - 6 : Nat) : Int))] [(true, g1, 24, [.slice am ks.length cm, .slice aa js.length ca]), (true, g13, 24, [.slice ad6 ks3.length cp7, .slice ad9 js4.length cp10])] ac _ := hs.re ⟨rfl, rfl, rfl, rfl, trivial⟩
            refine region_inv [([], [1, 2, 3, 4, 5, 6, 7, 8, 9, 10, 11, 12, 13, 14, 15, 16, 17, 18, 19]), ([0], [2, 3, 4, 5, 6, 7, 8, 9, 10, 11, 12, 13, 14, 15, 16, 17, 18, 19]), ([0, 1], [3, 4, 6, 7, 8, 9, 10, 11, 12, 13, 14, 15, 16, 17, 18, 19]), ([0, 1, 2], [4, 6, 7, 8, 9, 10, 11, 12, 13, 14, 15, 16, 17, 18, 19]), ([0, 1, 2, 3], [6, 7, 8, 9, 10, 11, 12, 13, 14, 15, 16, 17, 18, 19]), ([0, 1], [6, 7, 8, 9, 10, 11, 12, 13, 14, 15, 16, 17, 18, 19]), ([0, 1, 2, 3, 4, 5], [7, 8, 9, 10, 11, 12, 13, 14, 15, 16, 17, 18, 19]), ([0, 1, 2, 3, 4, 5, 6], [8, 9, 10, 11, 12, 13, 14, 15, 16, 17, 18, 19]), ([0, 1, 2, 3, 4, 5, 6, 7], [9, 10, 11, 12, 13, 14, 15, 16, 17, 18, 19]), ([0, 1, 2, 3, 4, 5, 6, 7, 8], [10, 12, 17, 18, 19]), ([0, 1, 2, 3, 4, 5, 6, 7, 8, 9], [12, 17, 18, 19]), ([0, 1, 2, 3, 4, 5, 6, 7, 8], [12, 17, 18, 19]), ([0, 1, 2, 3, 4, 5, 6, 7, 8, 9, 10, 11], [17, 18, 19]), ([0, 1, 2, 3, 4, 5, 6, 7, 8], [14, 16, 17, 18, 19]), ([0, 1, 2, 3, 4, 5, 6, 7, 8, 13], [16, 17, 18, 19]), ([0, 1, 2, 3, 4, 5, 6, 7, 8], [16, 17, 18, 19]), ([0, 1, 2, 3, 4, 5, 6, 7, 8, 13, 14, 15], [17, 18, 19]), ([0, 1, 2, 3, 4, 5, 6, 7, 8, 9, 10, 11, 12, 13, 14, 15, 16], [18, 19]), ([0, 1, 2, 3, 4, 5, 6, 7, 8, 9, 10, 11, 12, 13, 14, 15, 16, 17], [19]), ([0, 1, 2, 3, 4, 5, 6, 7, 8, 9, 10, 11, 12, 13, 14, 15, 16, 17, 18], [])] (fun L ac w => St 66 ⟨w0, [], [(true, .cel (.slice am ks.length cm) ks.length vs), (true, .bys vs ks), (true, .cel (.slice aa js.length ca) js.length us), (true, .bys us js), (true, .cel (.slice ad6 ks3.length cp7) ks3.length vs8), (true, .cel (.slice ad9 js4.length cp10) js4.length us11), (true, .bys (vs8 ++ us11 ++ ([])) (ks3 ++ js4 ++ ([]))), (true, .bys vs8 ks3), (true, .bys us11 js4)], Z, noX⟩ [(47, L 0, .bool true), (48, L 1, .bool true), (49, L 2, .pointer (some ⟨g13, 0, none⟩)), (50, L 3, .slice ad6 ks3.length cp7), (51, L 4, .int .i64 ((ks3.length : Nat) : Int)), (52, L 5, .int .i64 ((ks.length - 6 : Nat) : Int)), (53, L 6, .bool true), (54, L 7, .bool true), (55, L 8, .bool true), (56, L 9, .pointer (some ⟨g13, 0, none⟩)), (57, L 10, .slice ad6 ks3.length cp7), (58, L 11, .int .i64 ((ks.length - 6 : Nat) : Int)), (59, L 12, .slice ad6 (ks.length - 6) cp7), (60, L 13, .pointer (some ⟨g1, 0, none⟩)), (61, L 14, .slice am ks.length cm), (62, L 15, .int .i64 ((ks.length - 6 : Nat) : Int)), (63, L 16, .slice am (ks.length - 6) cm), (64, L 17, .bool true), (65, L 18, .bool true), (4, L 19, .bool true), (3, true, .pointer (some ⟨g1, 0, none⟩)), (4, true, .bool false), (5, true, .pointer (some ⟨g13, 0, none⟩)), (7, true, .int .i64 ((ks.length - 6 : Nat) : Int))] [(true, g1, 24, [.slice am ks.length cm, .slice aa js.length ca]), (true, g13, 24, [.slice ad6 ks3.length cp7, .slice ad9 js4.length cp10])] ac w) (by kernel_rfl) (by kernel_rfl) ?_ ?_ ?_
            · exact hs.drew.skip.skip.skip.skip.skip.skip.skip.skip.skip.skip.skip.skip.skip.skip.skip.skip.skip.skip.skip.skip
            · refine ⟨?_, ?_, ?_, ?_, ?_, ?_, ?_, ?_, ?_, ?_, ?_, ?_, ?_, ?_, ?_, ?_, ?_, ?_, ?_, ?_, trivial⟩
              · intro L ac w hJ
                have hs := hJ
                refine wpO_plain rfl (op_callV (F := 9) (ρ := Unit) hs (some 0) none (v := fun r => .bool true) (E := fun r => []) (j := 0) rfl rfl rfl rfl (Try.call9 _) (fun hs => alive_c _ _) (fun _ => rfl) (fun _ => rfl) rfl rfl fun _ ac w hs => ?_)
                exact hs
              · intro L ac w hJ
                have hs := hJ
                refine wpO_plain rfl (op_move hs (some 1) rfl rfl rfl rfl fun ac hs => ?_)
                exact hs
              · intro L ac w hJ
                have hs := hJ
                refine wpO_in hs rfl rfl rfl (op_fieldA hs (some 2) rfl rfl rfl Try.underlying24 rfl Try.sizeOf22 (by decide) rfl fun ac hs => ?_)
                exact hs
              · intro L ac w hJ
                have hs := hJ
                refine wpO_in hs rfl rfl rfl (op_load hs (some 3) 1 (v := .slice ad6 ks3.length cp7) rfl rfl rfl rfl Try.isAgg22 Try.sizeOf22 rfl rfl fun ac hs => ?_)
                exact hs
              · intro L ac w hJ
                have hs := hJ
                refine wpO_in hs rfl rfl rfl (op_blt hs (some 4) (v := .int .i64 ((ks3.length : Nat) : Int)) rfl rfl rfl (blt_len Try.underlying22) rfl fun ac hs => ?_)
                exact hs
              · intro L ac w hJ
                have hs := hJ
                refine wpO_in hs rfl rfl rfl (op_move hs (some 5) rfl rfl rfl rfl fun ac hs => ?_)
                exact hs
              · intro L ac w hJ
                have hs := hJ
                refine wpO_in hs rfl rfl rfl (op_bin hs (some 6) (v := .bool true) rfl rfl rfl rfl (fun _ => rfl) (fun w => dT hbl.1 (bin_geqN (x := ks3.length) (y := ks.length - 6) w)) rfl fun ac hs => ?_)
                exact hs
              · intro L ac w hJ
                have hs := hJ
                refine wpO_plain rfl (op_pickT hs (some 7) rfl rfl rfl rfl rfl fun ac hs => ?_)
                exact hs
              · intro L ac w hJ
                have hs := hJ
                refine wpO_plain rfl (op_move hs (some 8) rfl rfl rfl rfl fun ac hs => ?_)
                exact hs
              · intro L ac w hJ
                have hs := hJ
                refine wpO_in hs rfl rfl rfl (op_fieldA hs (some 9) rfl rfl rfl Try.underlying24 rfl Try.sizeOf22 (by decide) rfl fun ac hs => ?_)
                exact hs
              · intro L ac w hJ
                have hs := hJ
                refine wpO_in hs rfl rfl rfl (op_load hs (some 10) 1 (v := .slice ad6 ks3.length cp7) rfl rfl rfl rfl Try.isAgg22 Try.sizeOf22 rfl rfl fun ac hs => ?_)
                exact hs
              · intro L ac w hJ
                have hs := hJ
                refine wpO_in hs rfl rfl rfl (op_move hs (some 11) rfl rfl rfl rfl fun ac hs => ?_)
                exact hs
              · intro L ac w hJ
                have hs := hJ
                refine wpO_in hs rfl rfl rfl (op_sliceV hs (some 12) 4 0 (ks.length - 6) (v' := .slice ad6 (ks.length - 6) cp7) rfl rfl rfl rfl (.inl ⟨rfl, rfl⟩) (.inr ⟨_, _, rfl, rfl⟩) Try.underlying22 Try.sizeOf34 (show 0 ≤ ks.length - 6 by omega) (show ks.length - 6 ≤ ks3.length by omega) vsl_hi rfl fun ac hs => ?_)
                exact hs
              · intro L ac w hJ
                have hs := hJ
                refine wpO_in hs rfl rfl rfl (op_fieldA hs (some 13) rfl rfl rfl Try.underlying24 rfl Try.sizeOf22 (by decide) rfl fun ac hs => ?_)
                exact hs
              · intro L ac w hJ
                have hs := hJ
                refine wpO_in hs rfl rfl rfl (op_load hs (some 14) 0 (v := .slice am ks.length cm) rfl rfl rfl rfl Try.isAgg22 Try.sizeOf22 rfl rfl fun ac hs => ?_)
                exact hs
              · intro L ac w hJ
                have hs := hJ
                refine wpO_in hs rfl rfl rfl (op_move hs (some 15) rfl rfl rfl rfl fun ac hs => ?_)
                exact hs
              · intro L ac w hJ
                have hs := hJ
                refine wpO_in hs rfl rfl rfl (op_sliceV hs (some 16) 0 0 (ks.length - 6) (v' := .slice am (ks.length - 6) cm) rfl rfl rfl rfl (.inl ⟨rfl, rfl⟩) (.inr ⟨_, _, rfl, rfl⟩) Try.underlying22 Try.sizeOf34 (show 0 ≤ ks.length - 6 by omega) (show ks.length - 6 ≤ ks.length by omega) vsl_hi rfl fun ac hs => ?_)
                exact hs
              · intro L ac w hJ
                have hs := hJ
                refine wpO_in hs rfl rfl rfl (op_callV (F := 17) (ρ := Unit) hs (some 17) none (v := fun r => .bool true) (E := fun r => []) (j := 0) rfl rfl rfl rfl (Try.call17 _) (fun hs => same1n_c ad6 (ks.length - 6) cp7 (vs8.take (ks.length - 6)) (ks3.take (ks.length - 6)) am (ks.length - 6) cm (vs.take (ks.length - 6)) (ks.take (ks.length - 6)) true (decide_eq_true hbl.2) (by rw [List.length_take]; omega) (by rw [List.length_take]; omega) _ _ (hs.celHi 4 (ks.length - 6) rfl (show ks.length - 6 ≤ ks3.length by omega)) ((hs.rowB (k := 7) (G := noX) (.inr rfl)).take (ks.length - 6)) (hs.celHi 0 (ks.length - 6) rfl (show ks.length - 6 ≤ ks.length by omega)) ((hs.rowB (k := 1) (G := noX) (.inr rfl)).take (ks.length - 6))) (fun _ => rfl) (fun _ => rfl) rfl rfl fun _ ac w hs => ?_)
                exact hs
              · intro L ac w hJ
                have hs := hJ
                refine wpO_plain rfl (op_pickT hs (some 18) rfl rfl rfl rfl rfl fun ac hs => ?_)
                exact hs
              · intro L ac w hJ
                have hs := hJ
                refine wpO_plain rfl (op_assign hs (some 19) rfl rfl rfl rfl fun ac hs => ?_)
                exact hs
            intro ac w hJ
            replace hs : St 66 ⟨w0, [], [(true, .cel (.slice am ks.length cm) ks.length vs), (true, .bys vs ks), (true, .cel (.slice aa js.length ca) js.length us), (true, .bys us js), (true, .cel (.slice ad6 ks3.length cp7) ks3.length vs8), (true, .cel (.slice ad9 js4.length cp10) js4.length us11), (true, .bys (vs8 ++ us11 ++ ([])) (ks3 ++ js4 ++ ([]))), (true, .bys vs8 ks3), (true, .bys us11 js4)], Z, noX⟩ [(47, true, .bool true), (48, true, .bool true), (49, true, .pointer (some ⟨g13, 0, none⟩)), (50, true, .slice ad6 ks3.length cp7), (51, true, .int .i64 ((ks3.length : Nat) : Int)), (52, true, .int .i64 ((ks.length - 6 : Nat) : Int)), (53, true, .bool true), (54, true, .bool true), (55, true, .bool true), (56, true, .pointer (some ⟨g13, 0, none⟩)), (57, true, .slice ad6 ks3.length cp7), (58, true, .int .i64 ((ks.length - 6 : Nat) : Int)), (59, true, .slice ad6 (ks.length - 6) cp7), (60, true, .pointer (some ⟨g1, 0, none⟩)), (61, true, .slice am ks.length cm), (62, true, .int .i64 ((ks.length - 6 : Nat) : Int)), (63, true, .slice am (ks.length - 6) cm), (64, true, .bool true), (65, true, .bool true), (4, true, .bool true), (3, true, .pointer (some ⟨g1, 0, none⟩)), (4, true, .bool false), (5, true, .pointer (some ⟨g13, 0, none⟩)), (7, true, .int .i64 ((ks.length - 6 : Nat) : Int))] [(true, g1, 24, [.slice am ks.length cm, .slice aa js.length ca]), (true, g13, 24, [.slice ad6 ks3.length cp7, .slice ad9 js4.length cp10])] ac w := hJ
            refine then_n ?_
            refine wp_ret ?_
            exact bodyPost_ret (res1 rfl (rv_t hs rfl)) hs.defers ⟨(), rfl, hs.bel rfl, okl0⟩
      · skip
        refine wp_region_lit ?_
        refine lstep (wpO_plain rfl (op_fieldA hs none rfl rfl rfl Try.underlying24 rfl Try.sizeOf22 (by decide) rfl fun ac hs => ?_))
        refine lstep (wpO_plain rfl (op_load hs none 0 (v := .slice am ks.length cm) rfl rfl rfl rfl Try.isAgg22 Try.sizeOf22 rfl rfl fun ac hs => ?_))
        refine lstep (wpO_plain rfl (op_blt hs none (v := .int .i64 ((ks.length : Nat) : Int)) rfl rfl rfl (blt_len Try.underlying22) rfl fun ac hs => ?_))
        refine lstep (wpO_plain rfl (op_bin hs none (v := .int .i64 (((ks.length : Nat) : Int) - 6)) rfl rfl rfl rfl (fun _ => rfl) (bin_subI (x := ((ks.length : Nat) : Int)) (y := 6) (z := ((ks.length : Nat) : Int) - 6) rfl (by omega) (by omega)) rfl fun ac hs => ?_))
        refine lstep (wpO_plain rfl (op_assign hs none rfl rfl rfl rfl fun ac hs => ?_))
        refine wpList_nil ?_
        refine then_n ?_
        refine wp_seq ?_
        refine wp_seq ?_
        replace hs : St 66 ⟨w0, [], [(true, .cel (.slice am ks.length cm) ks.length vs), (true, .bys vs ks), (true, .cel (.slice aa js.length ca) js.length us), (true, .bys us js), (true, .cel (.slice ad6 ks3.length cp7) ks3.length vs8), (true, .cel (.slice ad9 js4.length cp10) js4.length us11), (true, .bys (vs8 ++ us11 ++ ([])) (ks3 ++ js4 ++ ([]))), (true, .bys vs8 ks3), (true, .bys us11 js4)], Z, noX⟩ [(0, true, .int .u8 ((op : Nat) : Int)), (3, true, .pointer (some ⟨g1, 0, none⟩)), (4, true, .bool false), (5, true, .pointer (some ⟨g13, 0, none⟩)), (7, true, .int .i64 (((ks.length : Nat) : Int) - 6))] [(true, g1, 24, [.slice am ks.length cm, .slice aa js.length ca]), (true, g13, 24, [.slice ad6 ks3.length cp7, .slice ad9 js4.length cp10])] ac _ := hs.re ⟨rfl, rfl, rfl, rfl, rfl, trivial⟩
        refine wp_region_lit ?_
        refine lstep (wpO_plain rfl (op_move hs none rfl rfl rfl rfl fun ac hs => ?_))
        refine lstep (wpO_plain rfl (op_bin hs none (v := .bool true) rfl rfl rfl rfl (fun _ => rfl) (fun w => dT (show ((ks.length : Nat) : Int) - 6 ≤ 0 by omega) (bin_leqI (x := ((ks.length : Nat) : Int) - 6) (y := 0) w)) rfl fun ac hs => ?_))
        refine lstep (wpO_plain rfl (op_move hs none rfl rfl rfl rfl fun ac hs => ?_))
        refine lstep (wpO_out hs none rfl rfl (.inl rfl) rfl rfl fun ac hs => ?_)
        refine lstep (wpO_out hs none rfl rfl (.inl rfl) rfl rfl fun ac hs => ?_)
        refine lstep (wpO_plain rfl (op_pickT hs none rfl rfl rfl rfl rfl fun ac hs => ?_))
        refine wpList_nil ?_
        refine then_n ?_
        refine wp_cond_true (hs.ev rfl) ?_
        refine wp_seq ?_
        refine wp_region_lit ?_
        refine lstep (wpO_plain rfl (op_callV (F := 9) (ρ := Unit) hs none none (v := fun r => .bool true) (E := fun r => []) (j := 0) rfl rfl rfl rfl (Try.call9 _) (fun hs => alive_c _ _) (fun _ => rfl) (fun _ => rfl) rfl rfl fun _ ac w hs => ?_))
        refine lstep (wpO_plain rfl (op_assign hs none rfl rfl rfl rfl fun ac hs => ?_))
        refine wpList_nil ?_
        refine then_n ?_
        refine wp_ret ?_
        refine then_r ?_
        exact bodyPost_ret (res1 rfl (rv_t hs rfl)) hs.defers ⟨(), rfl, hs.bel rfl, okl0⟩
end Go.Proofs.Ytikkhkjndbicgaa

/- Arguments opened, and read again behind a call that writes nothing that was there: lemmas of whatever program. -/
namespace Go.Proofs.Ytikkhkjndbicgaa
open Go.ChangeShapes Go.WideShapes Go.ChangeAt Go.RowKit
section
variable {H : Type} {enc : TypeId × Value → H} {P : Program}
theorem trodAll_below (hl : laidOutB P = true) {W W' : World} (hb : Below W.heap.size W W') : ∀ (ts : List TypeId) (vs : List Value) (ds : List (DataW H)) (ps : List MemPlace),
    ts.all (fun t => P.readableRec t && decide (t < P.types.size)) = true → DataW.TrodAll enc P W 0 (fun _ => true) true ts vs ds ps → DataW.TrodAll enc P W' 0 (fun b => decide (b < W.heap.size)) true ts vs ds ps := by
  intro ts
  induction ts with
  | nil =>
    intro vs ds ps _ h
    obtain ⟨rfl, rfl, rfl⟩ := trodAll_nil h
    exact trodAll_mk0
  | cons t ts ih =>
    intro vs ds ps hts h
    obtain ⟨v, vs0, d, ds0, p, q, rfl, rfl, rfl, h0, r0⟩ := trodAll_cons h
    simp only [List.all_cons, Bool.and_eq_true, decide_eq_true_eq] at hts
    obtain ⟨⟨hr, ht⟩, hts⟩ := hts
    have lt0 : ∀ x ∈ p, x.block < W.heap.size := by obtain ⟨m, hm⟩ := h0; exact DataW.trod_lt m _ _ _ hm
    exact trodAll_cons_mk (Below.trod hl hr ht h0 hb lt0) (ih _ _ _ hts r0)
end
def RdN (w : World) (a : Option Addr) (l : List UInt8) : Prop :=
  l.length ≠ 0 → ∃ b off, a = some ⟨b, off, none⟩ ∧ ∀ k, k < l.length → w.cell? ⟨b, off + k, none⟩ = some (.int .u8 ((l.getD k 0).toNat : Int))
end Go.Proofs.Ytikkhkjndbicgaa

/- Arguments that are natural numbers of 32 bits, whole numbers of 64 bits. -/
namespace Go.Proofs.Ytikkhkjndbicgaa
open Go.ChangeShapes Go.WideShapes Go.ChangeAt Go.RowKit
theorem nat_u8 {a : Int} (w : (Lit.int .u8 a).wf = true) : ∃ n : Nat, a = (n : Int) ∧ n < 256 := by
  have c := bounds_u8 w
  obtain ⟨y, rfl⟩ := Int.eq_ofNat_of_zero_le c.1
  exact ⟨y, rfl, by omega⟩
end Go.Proofs.Ytikkhkjndbicgaa

/- Arguments that lie in memory, opened as entries: byte strings, rows. -/
namespace Go.Proofs.Ytikkhkjndbicgaa
open Go.ChangeShapes Go.WideShapes Go.ChangeAt Go.RowKit
section
variable {H : Type} {enc : TypeId × Value → H} {P : Program} {w : World} {base : Nat} {sp : Nat → Bool} {held : Bool}
theorem trod_bytes {t e : TypeId} {m : Nat} {cs : List Value} {x : DataW H × List MemPlace} (ht : P.underlying t = some (.slice e)) (he : P.underlying e = some (.int .u8)) (hc : P.cellsOf e = 1)
    (h : DataW.trod enc P w base sp held m t cs = some x) : ∃ a c l, cs = [.slice a l.length c] ∧ ByV w (fun _ => True) (.slice a l.length c) l := by
  rcases open_ints ht he hc h with ⟨rfl, _⟩ | ⟨x, len, c, zs, rfl, _, hl, hm, hz, _, hcell, hwz⟩
  · exact ⟨none, 0, [], rfl, celv_nil⟩
  · have hzl : len ≤ zs.length := by rw [hz]; split <;> omega
    have hlen : ((zs.take len).map fun z => UInt8.ofNat z.toNat).length = len := by simp; omega
    refine ⟨some x, c, (zs.take len).map fun z => UInt8.ofNat z.toNat, by rw [hlen], ⟨some x, c, by rw [hlen], by rw [hlen]; exact hl, hm, (fun h => by cases h), fun j u hu => ?_⟩⟩
    have hj : j < len := by
      have := (List.getElem?_eq_some_iff.1 hu).1
      rw [bcs_length, hlen] at this; exact this
    obtain ⟨b, off, rfl, hcc⟩ := ints_at hcell (by omega)
    refine ⟨b, off, rfl, trivial, ?_⟩
    have hjz : j < zs.length := by omega
    rw [hcc j hjz]
    have hb := bounds_u8 (hwz _ (List.getElem_mem hjz))
    rw [bcs_get (by rw [hlen]; exact hj)] at hu
    have e1 : ((byt ((zs.take len).map fun z => UInt8.ofNat z.toNat) j : Nat) : Int) = zs[j] := by
      unfold byt
      rw [List.getD_eq_getElem?_getD, List.getElem?_map, List.getElem?_take_of_lt hj, List.getElem?_eq_getElem hjz]
      simp
      omega
    rw [e1] at hu
    rw [← hu]
    simp [List.getD, hjz]
theorem choose_list {α : Type} (n : Nat) (R : Nat → α → Prop) (h : ∀ i, i < n → ∃ x, R i x) : ∃ l : List α, l.length = n ∧ ∀ i x, l[i]? = some x → R i x := by
  induction n with
  | zero => exact ⟨[], rfl, fun i x hx => by simp at hx⟩
  | succ n ih =>
    obtain ⟨l, hl, hr⟩ := ih fun i hi => h i (by omega)
    obtain ⟨x, hx⟩ := h n (by omega)
    refine ⟨l ++ [x], by simp [hl], fun i y hy => ?_⟩
    by_cases hi : i < n
    · rw [List.getElem?_append_left (by omega)] at hy; exact hr i y hy
    · have := (List.getElem?_eq_some_iff.1 hy).1
      simp at this
      obtain rfl : i = n := by omega
      rw [List.getElem?_append_right (by omega), hl] at hy
      simp at hy
      subst hy; exact hx
theorem cell_spot {a : Addr} {v : Value} (h : w.cell? a = some v) : ∃ b off, a = ⟨b, off, none⟩ := by
  obtain ⟨b, off, spot⟩ := a
  have hspot : spot = none := World.cell?_spot h
  subst hspot
  exact ⟨b, off, rfl⟩
theorem trod_row {t e : TypeId} {m z : Nat} {cs : List Value} {x : DataW H × List MemPlace} (ht : P.underlying t = some (.slice e)) (hz : P.cellsOf e = z)
    (h : DataW.trod enc P w base sp held m t cs = some x) : ∃ a len c, cs = [.slice a len c] ∧ len ≤ c ∧ c ≤ maxLen ∧ (a = none → c = 0) ∧
      ∀ i, i < len → ∃ ad n ys y, a = some ad ∧ ys.length = z ∧ (∀ j, j < z → w.cell? (ad.add (i * z + j)) = ys[j]?) ∧ DataW.trod enc P w base sp held n e ys = some y := by
  rcases DataW.trod_slice ht h with ⟨rfl, _⟩ | ⟨a, len, cap, elems, rest, n, _, rfl, _, hb, hl, hm, hlen, hel, _, _⟩
  · exact ⟨none, 0, 0, rfl, Nat.le_refl _, Nat.zero_le _, fun _ => rfl, fun i hi => absurd hi (by omega)⟩
  · refine ⟨some a, len, cap, rfl, hl, hm, (fun h => by cases h), fun i hi => ?_⟩
    have h1 := hel i hi
    rw [List.getElem?_eq_getElem (by omega), hz, Option.bind_eq_some_iff] at h1
    obtain ⟨ys, hys, hy⟩ := h1
    obtain ⟨_, h2, h3⟩ := World.cells?_some hys
    refine ⟨a, n, ys, _, rfl, h2, fun j hj => ?_, hy⟩
    rw [← h3 j hj, Addr.add_add]
end
end Go.Proofs.Ytikkhkjndbicgaa

/- Arguments that are stacks, opened. -/
namespace Go.Proofs.Ytikkhkjndbicgaa
open Go.ChangeShapes Go.WideShapes Go.ChangeAt Go.RowKit
section
variable {H : Type} {enc : TypeId × Value → H} {w : World} {base : Nat} {sp : Nat → Bool} {held : Bool}
theorem trod_bys {m : Nat} {cs : List Value} {x : DataW H × List MemPlace} (h : DataW.trod enc Try.prog w base sp held m 22 cs = some x) :
    ∃ (a : Option Addr) (c : Nat) (vs : List Value) (ks : List (List UInt8)), cs = [.slice a ks.length c] ∧ CelV w (fun _ => True) (.slice a ks.length c) ks.length vs ∧ BysV w (fun _ => True) vs ks := by
  obtain ⟨a, len, c, h1, hl, hm, hn, hr⟩ := trod_row (z := 1) Try.underlying22 (by kernel_rfl) h
  have hr2 : ∀ i, i < len → ∃ x : Value × List UInt8, ByV w (fun _ => True) x.1 x.2 ∧ ∃ ad, a = some ad ∧ w.cell? (ad.add i) = some x.1 := by
    intro i hi
    obtain ⟨ad, n, ys, y, ha, hy, hc, ht⟩ := hr i hi
    obtain ⟨b, cc, l, rfl, h3⟩ := trod_bytes Try.underlying34 Try.underlying5 (by kernel_rfl) ht
    have h4 := hc 0 (by omega)
    rw [Nat.mul_one, Nat.add_zero] at h4
    exact ⟨(.slice b l.length cc, l), h3, ad, ha, h4⟩
  obtain ⟨ts, hlen, hts⟩ := choose_list len _ hr2
  refine ⟨a, c, ts.map (·.1), ts.map (·.2), by simp [hlen, h1], ⟨a, c, rfl, by simpa [hlen] using hl, hm, hn, fun j u hu => ?_⟩, ⟨by simp, fun i v l hv hl2 => ?_⟩⟩
  · rw [List.getElem?_map, Option.map_eq_some_iff] at hu
    obtain ⟨x, hx, rfl⟩ := hu
    obtain ⟨_, ad, rfl, h2⟩ := hts j x hx
    have hlen0 : 0 < ts.length := by have := (List.getElem?_eq_some_iff.1 hx).1; omega
    obtain ⟨_, ad', e, h4⟩ := hts 0 _ (List.getElem?_eq_getElem hlen0)
    obtain rfl := Option.some.inj e
    have h5 : w.cell? ad = some ts[0].1 := by simpa [Addr.add] using h4
    obtain ⟨b, off, rfl⟩ := cell_spot h5
    rw [Addr.add_mid] at h2
    exact ⟨b, off, rfl, trivial, h2⟩
  · rw [List.getElem?_map, Option.map_eq_some_iff] at hv
    obtain ⟨x, hx, rfl⟩ := hv
    rw [List.getElem?_map, hx] at hl2
    obtain rfl : x.2 = l := by simpa using hl2
    exact (hts i x hx).1
theorem trod_stk {m : Nat} {cs : List Value} {x : DataW H × List MemPlace} (h : DataW.trod enc Try.prog w base sp held m 24 cs = some x) :
    ∃ (a : Option Addr) (c : Nat) (vs : List Value) (ks : List (List UInt8)) (b : Option Addr) (d : Nat) (us : List Value) (js : List (List UInt8)), cs = [.slice a ks.length c, .slice b js.length d] ∧ CelV w (fun _ => True) (.slice a ks.length c) ks.length vs ∧ BysV w (fun _ => True) vs ks ∧ CelV w (fun _ => True) (.slice b js.length d) js.length us ∧ BysV w (fun _ => True) us js := by
  cases m with
  | zero => simp [DataW.trod] at h
  | succ m =>
    rw [DataW.trod_step] at h
    unfold DataW.trodStep at h
    have c0 : Try.prog.cellsOf 24 = 2 := by kernel_rfl
    have c1 : Try.prog.cellsOf 22 = 1 := by kernel_rfl
    simp only [Try.underlying24, c0] at h
    split at h
    · rename_i hl
      simp only [Option.map_eq_some_iff, List.mapM_cons, List.mapM_nil, bind, Option.bind_eq_some_iff, pure, Option.some.injEq] at h
      obtain ⟨ys, ⟨y0, h0, ys1, ⟨y1, h1, _⟩, _⟩, _⟩ := h
      rw [c1] at h0 h1
      obtain ⟨a, c, vs, ks, hq, hv, hy⟩ := trod_bys h0
      obtain ⟨b, d, us, js, hr, hu, hx⟩ := trod_bys h1
      refine ⟨a, c, vs, ks, b, d, us, js, ?_, hv, hy, hu, hx⟩
      match cs, hl with
      | [u, v], _ =>
        simp at hq hr
        rw [hq, hr]
    · cases h
set_option maxRecDepth 100000 in
theorem open_stacks {v : Value} {d : DataW H} {ps : List MemPlace} (hval : Value.okWide Try.prog w .any 0 24 v) (hd : DataW.Trod enc Try.prog w base sp held 24 v d ps) :
    ∃ (a : Option Addr) (c : Nat) (vs : List Value) (b : Option Addr) (d : Nat) (us : List Value) (ks js : List (List UInt8)), v = .agg #[.slice a ks.length c, .slice b js.length d] ∧ CelV w (fun _ => True) (.slice a ks.length c) ks.length vs ∧ BysV w (fun _ => True) vs ks ∧ CelV w (fun _ => True) (.slice b js.length d) js.length us ∧ BysV w (fun _ => True) us js := by
  have hu : ∃ fs, Try.prog.underlying 24 = some (.struct fs) := ⟨_, Try.underlying24⟩
  obtain ⟨fs, hu⟩ := hu
  obtain ⟨xs, rfl, _⟩ := okWide_struct hu hval
  obtain ⟨fuel, hf⟩ := hd
  obtain ⟨a, c, vs, ks, b, d, us, js, h1, h2⟩ := trod_stk hf
  exact ⟨a, c, vs, b, d, us, ks, js, congrArg Value.agg (Array.toList_inj.1 h1), h2⟩
end
end Go.Proofs.Ytikkhkjndbicgaa
