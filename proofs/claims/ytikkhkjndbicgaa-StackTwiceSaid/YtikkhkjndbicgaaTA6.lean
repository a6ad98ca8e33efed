/- Several texts in one, what this law needs of them: StkQ, StkV, StkL, Frame, FrameE, FrameK. -/
import Derived.Test.YtikkhkjndbicgaaTA5
import Derived.Test.YtikkhkjndbicgaaRows
import Derived.WalkKit
import Derived.ProofKit
import Derived.OpenShut
import Derived.ChangeOld
import Derived.Below

/- Stacks: the laws of the operations, in plain Lean. -/
namespace Go.Proofs.Ytikkhkjndbicgaa
open Go.RowKit
def allB (n : Nat) (ks : BL) : Bool := ks.all fun x => decide (x.length ≤ n)
def smallS (ks js : BL) : Bool := decide (ks.length ≤ 110) && decide (js.length ≤ 110) && allB 600 ks && allB 600 js
def timesL : List UInt8 → BL → BL → BL × BL × Bool
  | [], ks, js => (ks, js, true)
  | o :: l, ks, js => if (doL o.toNat ks js).2.2 = 0 then timesL l (doL o.toNat ks js).1 (doL o.toNat ks js).2.1 else (ks, js, false)
theorem small_ok {ks js : BL} (h : smallS ks js = true) : OkN 600 ks ∧ OkN 600 js := by
  unfold smallS allB at h
  simp only [Bool.and_eq_true, decide_eq_true_eq, List.all_eq_true] at h
  exact ⟨⟨by omega, h.1.2⟩, ⟨by omega, h.2⟩⟩
theorem chk_ok {ks js : BL} (h : chkL ks js = 0) : OkN 520 ks ∧ OkN 520 js ∧ ks.length + js.length ≤ 100 := by
  unfold chkL at h
  split at h
  · cases h
  · rename_i hn
    split at h
    · cases h
    · have f : ∀ l : BL, ¬ longB l = true → ∀ x ∈ l, x.length ≤ 520 := fun l hl x hx => by
        unfold longB at hl
        rw [List.any_eq_true] at hl
        by_cases hx2 : x.length ≤ 520
        · exact hx2
        · exact absurd ⟨x, hx, by simpa using hx2⟩ hl
      exact ⟨⟨by omega, f _ fun h => hn (.inl h)⟩, ⟨by omega, f _ fun h => hn (.inr h)⟩, by omega⟩
theorem don_inv {ks js k j : BL} {e : Nat} (h : donL ks js e = (k, j, 0)) : e = 0 ∧ k = ks ∧ j = js ∧ chkL ks js = 0 := by
  unfold donL at h
  by_cases h0 : (if e = 0 then chkL ks js else e) = 0
  · rw [if_pos h0] at h
    obtain ⟨h1, h2, _⟩ := inj3 h
    by_cases he : e = 0
    · rw [if_pos he] at h0; exact ⟨he, h1.symm, h2.symm, h0⟩
    · rw [if_neg he] at h0; exact absurd h0 he
  · rw [if_neg h0] at h
    exact absurd (inj3 h).2.2 h0
theorem do_inv {op : Nat} {ks js k j : BL} (h : doL op ks js = (k, j, 0)) :
    (movL op ks js 0 = (true, k, j, 0) ∨ (∃ k1 e1, movL op ks js 0 = (false, k1, j, e1) ∧ (redL op k1 e1 = (true, k, 0) ∨ ∃ k2 e2, redL op k1 e1 = (false, k2, e2) ∧ recL op k2 e2 = (true, k, 0)))) ∧ chkL k j = 0 := by
  obtain ⟨q, k1, j1, e1, h1⟩ : ∃ a b c d, movL op ks js 0 = (a, b, c, d) := ⟨_, _, _, _, rfl⟩
  unfold doL at h
  simp only [h1] at h
  split at h
  · rename_i hq
    obtain ⟨rfl, rfl, rfl, hc⟩ := don_inv h
    exact ⟨.inl (by rw [h1, hq]), hc⟩
  · rename_i hq
    obtain ⟨q2, k2, e2, h2⟩ : ∃ a b c, redL op k1 e1 = (a, b, c) := ⟨_, _, _, rfl⟩
    simp only [h2] at h
    have hq' : q = false := by simpa using hq
    split at h
    · rename_i hq2
      obtain ⟨rfl, rfl, rfl, hc⟩ := don_inv h
      exact ⟨.inr ⟨k1, e1, by rw [h1, hq'], .inl (by rw [h2, hq2])⟩, hc⟩
    · rename_i hq2
      obtain ⟨q3, k3, e3, h3⟩ : ∃ a b c, recL op k2 e2 = (a, b, c) := ⟨_, _, _, rfl⟩
      simp only [h3] at h
      have hq2' : q2 = false := by simpa using hq2
      split at h
      · rename_i hq3
        obtain ⟨rfl, rfl, rfl, hc⟩ := don_inv h
        exact ⟨.inr ⟨k1, e1, by rw [h1, hq'], .inr ⟨k2, e2, by rw [h2, hq2'], by rw [h3, hq3]⟩⟩, hc⟩
      · exact absurd (inj3 h).2.2 (by decide)
theorem do_chk {op : Nat} {ks js k j : BL} (h : doL op ks js = (k, j, 0)) : chkL k j = 0 := (do_inv h).2
theorem do_ok {op : Nat} {ks js k j : BL} (h : doL op ks js = (k, j, 0)) : OkN 1000 k ∧ OkN 1000 j := by
  obtain ⟨h1, h2, _⟩ := chk_ok (do_chk h)
  exact ⟨h1.mono (by decide), h2.mono (by decide)⟩
theorem shuf_at {n : Nat} {ps : List Nat} {A B : BL} (hB : B.length = n) : shufL n ps (A ++ B) 0 = (A ++ pickL B ps, 0) := by
  have h1 : (A ++ B).length - n = A.length := by simp; omega
  unfold shufL
  rw [if_pos (by unfold needE; rw [if_neg (by simp; omega)]), h1, List.take_left, List.drop_left]
  rfl
theorem shuf_less {n : Nat} {ps : List Nat} {ks : BL} (h : ks.length < n) : shufL n ps ks 0 = (ks, 12) := by
  have h1 : needE ks.length n 0 = 12 := by unfold needE; rw [if_pos h]; rfl
  unfold shufL
  rw [if_neg (by rw [h1]; decide), h1]
def shufT (op : Nat) : Option (Nat × List Nat) :=
  if op = 109 then some (2, []) else if op = 110 then some (2, [0, 1, 0, 1]) else if op = 111 then some (3, [0, 1, 2, 0, 1, 2]) else if op = 112 then some (4, [0, 1, 2, 3, 0, 1])
  else if op = 113 then some (6, [2, 3, 4, 5, 0, 1]) else if op = 114 then some (4, [2, 3, 0, 1]) else if op = 117 then some (1, []) else if op = 118 then some (1, [0, 0])
  else if op = 119 then some (2, [1]) else if op = 120 then some (2, [0, 1, 0]) else if op = 123 then some (3, [1, 2, 0]) else if op = 124 then some (2, [1, 0]) else if op = 125 then some (2, [1, 0, 1]) else none
theorem do_cut {op : Nat} {ks js k j : BL} {e : Nat} {k1 j1 : BL} (hm : movL op ks js 0 = (true, k1, j1, e)) (h : doL op ks js = (k, j, 0)) : k = k1 ∧ j = j1 ∧ e = 0 := by
  unfold doL at h
  simp only [hm, if_true] at h
  obtain ⟨h1, h2, h3, _⟩ := don_inv h
  exact ⟨h2, h3, h1⟩
theorem do_shuf {op n : Nat} {ps : List Nat} {A B js k j : BL} (hm : ∀ ks, movL op ks js 0 = (true, (shufL n ps ks 0).1, js, (shufL n ps ks 0).2)) (hB : B.length = n) (h : doL op (A ++ B) js = (k, j, 0)) : k = A ++ pickL B ps ∧ j = js := by
  have h1 := hm (A ++ B)
  rw [shuf_at hB] at h1
  obtain ⟨h2, h3, _⟩ := do_cut h1 h
  exact ⟨h2, h3⟩
theorem do_split {op n : Nat} {ps : List Nat} {ks js k j : BL} (hm : ∀ ks, movL op ks js 0 = (true, (shufL n ps ks 0).1, js, (shufL n ps ks 0).2)) (h : doL op ks js = (k, j, 0)) : ∃ A B, ks = A ++ B ∧ B.length = n := by
  by_cases hl : ks.length < n
  · have h1 := hm ks
    rw [shuf_less hl] at h1
    exact absurd (show 12 = 0 from (do_cut h1 h).2.2) (by decide)
  · exact ⟨ks.take (ks.length - n), ks.drop (ks.length - n), (List.take_append_drop _ _).symm, by rw [List.length_drop]; omega⟩
theorem times_cons {o : UInt8} {l : List UInt8} {ks js k j : BL} (h : timesL (o :: l) ks js = (k, j, true)) : ∃ k1 j1, doL o.toNat ks js = (k1, j1, 0) ∧ timesL l k1 j1 = (k, j, true) := by
  unfold timesL at h
  split at h
  · rename_i h0
    exact ⟨_, _, by rw [← h0], h⟩
  · exact absurd (inj3 h).2.2 (by decide)
theorem times_nil {ks js k j : BL} (h : timesL [] ks js = (k, j, true)) : k = ks ∧ j = js := ⟨(inj3 h).1.symm, (inj3 h).2.1.symm⟩
theorem bl1 {B : BL} (h : B.length = 1) : ∃ x, B = [x] := List.length_eq_one_iff.1 h
theorem bl2 {B : BL} (h : B.length = 2) : ∃ x y, B = [x, y] := by
  match B, h with
  | [a, b], _ => exact ⟨a, b, rfl⟩
theorem bl3 {B : BL} (h : B.length = 3) : ∃ x y z, B = [x, y, z] := by
  match B, h with
  | [a, b, c], _ => exact ⟨a, b, c, rfl⟩
theorem bl4 {B : BL} (h : B.length = 4) : ∃ x y z u, B = [x, y, z, u] := by
  match B, h with
  | [a, b, c, d], _ => exact ⟨a, b, c, d, rfl⟩
theorem bl6 {B : BL} (h : B.length = 6) : ∃ x y z u v t, B = [x, y, z, u, v, t] := by
  match B, h with
  | [a, b, c, d, e, f], _ => exact ⟨a, b, c, d, e, f, rfl⟩
theorem mv109 (js ks : BL) : movL 109 ks js 0 = (true, (shufL 2 [] ks 0).1, js, (shufL 2 [] ks 0).2) := by simp [movL]
theorem mv110 (js ks : BL) : movL 110 ks js 0 = (true, (shufL 2 [0, 1, 0, 1] ks 0).1, js, (shufL 2 [0, 1, 0, 1] ks 0).2) := by simp [movL]
theorem mv111 (js ks : BL) : movL 111 ks js 0 = (true, (shufL 3 [0, 1, 2, 0, 1, 2] ks 0).1, js, (shufL 3 [0, 1, 2, 0, 1, 2] ks 0).2) := by simp [movL]
theorem mv112 (js ks : BL) : movL 112 ks js 0 = (true, (shufL 4 [0, 1, 2, 3, 0, 1] ks 0).1, js, (shufL 4 [0, 1, 2, 3, 0, 1] ks 0).2) := by simp [movL]
theorem mv113 (js ks : BL) : movL 113 ks js 0 = (true, (shufL 6 [2, 3, 4, 5, 0, 1] ks 0).1, js, (shufL 6 [2, 3, 4, 5, 0, 1] ks 0).2) := by simp [movL]
theorem mv114 (js ks : BL) : movL 114 ks js 0 = (true, (shufL 4 [2, 3, 0, 1] ks 0).1, js, (shufL 4 [2, 3, 0, 1] ks 0).2) := by simp [movL]
theorem mv117 (js ks : BL) : movL 117 ks js 0 = (true, (shufL 1 [] ks 0).1, js, (shufL 1 [] ks 0).2) := by simp [movL]
theorem mv118 (js ks : BL) : movL 118 ks js 0 = (true, (shufL 1 [0, 0] ks 0).1, js, (shufL 1 [0, 0] ks 0).2) := by simp [movL]
theorem mv120 (js ks : BL) : movL 120 ks js 0 = (true, (shufL 2 [0, 1, 0] ks 0).1, js, (shufL 2 [0, 1, 0] ks 0).2) := by simp [movL]
theorem mv123 (js ks : BL) : movL 123 ks js 0 = (true, (shufL 3 [1, 2, 0] ks 0).1, js, (shufL 3 [1, 2, 0] ks 0).2) := by simp [movL]
theorem mv124 (js ks : BL) : movL 124 ks js 0 = (true, (shufL 2 [1, 0] ks 0).1, js, (shufL 2 [1, 0] ks 0).2) := by simp [movL]
theorem mv125 (js ks : BL) : movL 125 ks js 0 = (true, (shufL 2 [1, 0, 1] ks 0).1, js, (shufL 2 [1, 0, 1] ks 0).2) := by simp [movL]
theorem tw124_124 {ks js k j : BL} (h : timesL [124, 124] ks js = (k, j, true)) : k = ks ∧ j = js := by
  obtain ⟨k1, j1, h1, t1⟩ := times_cons h
  obtain ⟨A, B, rfl, hB⟩ := do_split (mv124 js) h1
  obtain ⟨x, y, rfl⟩ := bl2 hB
  obtain ⟨rfl, rfl⟩ := do_shuf (mv124 _) rfl h1
  obtain ⟨k2, j2, h2, t2⟩ := times_cons t1
  replace h2 : doL 124 ((A) ++ [y, x]) j1 = (k2, j2, 0) := by simpa [pickL] using h2
  obtain ⟨rfl, rfl⟩ := do_shuf (mv124 _) rfl h2
  obtain ⟨rfl, rfl⟩ := times_nil t2
  exact ⟨by simp [pickL], rfl⟩
theorem tw114_114 {ks js k j : BL} (h : timesL [114, 114] ks js = (k, j, true)) : k = ks ∧ j = js := by
  obtain ⟨k1, j1, h1, t1⟩ := times_cons h
  obtain ⟨A, B, rfl, hB⟩ := do_split (mv114 js) h1
  obtain ⟨x, y, z, u, rfl⟩ := bl4 hB
  obtain ⟨rfl, rfl⟩ := do_shuf (mv114 _) rfl h1
  obtain ⟨k2, j2, h2, t2⟩ := times_cons t1
  replace h2 : doL 114 ((A) ++ [z, u, x, y]) j1 = (k2, j2, 0) := by simpa [pickL] using h2
  obtain ⟨rfl, rfl⟩ := do_shuf (mv114 _) rfl h2
  obtain ⟨rfl, rfl⟩ := times_nil t2
  exact ⟨by simp [pickL], rfl⟩
theorem tw123_123_123 {ks js k j : BL} (h : timesL [123, 123, 123] ks js = (k, j, true)) : k = ks ∧ j = js := by
  obtain ⟨k1, j1, h1, t1⟩ := times_cons h
  obtain ⟨A, B, rfl, hB⟩ := do_split (mv123 js) h1
  obtain ⟨x, y, z, rfl⟩ := bl3 hB
  obtain ⟨rfl, rfl⟩ := do_shuf (mv123 _) rfl h1
  obtain ⟨k2, j2, h2, t2⟩ := times_cons t1
  replace h2 : doL 123 ((A) ++ [y, z, x]) j1 = (k2, j2, 0) := by simpa [pickL] using h2
  obtain ⟨rfl, rfl⟩ := do_shuf (mv123 _) rfl h2
  obtain ⟨k3, j3, h3, t3⟩ := times_cons t2
  replace h3 : doL 123 ((A) ++ [z, x, y]) j2 = (k3, j3, 0) := by simpa [pickL] using h3
  obtain ⟨rfl, rfl⟩ := do_shuf (mv123 _) rfl h3
  obtain ⟨rfl, rfl⟩ := times_nil t3
  exact ⟨by simp [pickL], rfl⟩
theorem tw113_113_113 {ks js k j : BL} (h : timesL [113, 113, 113] ks js = (k, j, true)) : k = ks ∧ j = js := by
  obtain ⟨k1, j1, h1, t1⟩ := times_cons h
  obtain ⟨A, B, rfl, hB⟩ := do_split (mv113 js) h1
  obtain ⟨x, y, z, u, v, t, rfl⟩ := bl6 hB
  obtain ⟨rfl, rfl⟩ := do_shuf (mv113 _) rfl h1
  obtain ⟨k2, j2, h2, t2⟩ := times_cons t1
  replace h2 : doL 113 ((A) ++ [z, u, v, t, x, y]) j1 = (k2, j2, 0) := by simpa [pickL] using h2
  obtain ⟨rfl, rfl⟩ := do_shuf (mv113 _) rfl h2
  obtain ⟨k3, j3, h3, t3⟩ := times_cons t2
  replace h3 : doL 113 ((A) ++ [v, t, x, y, z, u]) j2 = (k3, j3, 0) := by simpa [pickL] using h3
  obtain ⟨rfl, rfl⟩ := do_shuf (mv113 _) rfl h3
  obtain ⟨rfl, rfl⟩ := times_nil t3
  exact ⟨by simp [pickL], rfl⟩
theorem tw118_117 {ks js k j : BL} (h : timesL [118, 117] ks js = (k, j, true)) : k = ks ∧ j = js := by
  obtain ⟨k1, j1, h1, t1⟩ := times_cons h
  obtain ⟨A, B, rfl, hB⟩ := do_split (mv118 js) h1
  obtain ⟨x, rfl⟩ := bl1 hB
  obtain ⟨rfl, rfl⟩ := do_shuf (mv118 _) rfl h1
  obtain ⟨k2, j2, h2, t2⟩ := times_cons t1
  replace h2 : doL 117 ((A ++ [x]) ++ [x]) j1 = (k2, j2, 0) := by simpa [pickL] using h2
  obtain ⟨rfl, rfl⟩ := do_shuf (mv117 _) rfl h2
  obtain ⟨rfl, rfl⟩ := times_nil t2
  exact ⟨by simp [pickL], rfl⟩
theorem tw120_117 {ks js k j : BL} (h : timesL [120, 117] ks js = (k, j, true)) : k = ks ∧ j = js := by
  obtain ⟨k1, j1, h1, t1⟩ := times_cons h
  obtain ⟨A, B, rfl, hB⟩ := do_split (mv120 js) h1
  obtain ⟨x, y, rfl⟩ := bl2 hB
  obtain ⟨rfl, rfl⟩ := do_shuf (mv120 _) rfl h1
  obtain ⟨k2, j2, h2, t2⟩ := times_cons t1
  replace h2 : doL 117 ((A ++ [x, y]) ++ [x]) j1 = (k2, j2, 0) := by simpa [pickL] using h2
  obtain ⟨rfl, rfl⟩ := do_shuf (mv117 _) rfl h2
  obtain ⟨rfl, rfl⟩ := times_nil t2
  exact ⟨by simp [pickL], rfl⟩
theorem tw110_109 {ks js k j : BL} (h : timesL [110, 109] ks js = (k, j, true)) : k = ks ∧ j = js := by
  obtain ⟨k1, j1, h1, t1⟩ := times_cons h
  obtain ⟨A, B, rfl, hB⟩ := do_split (mv110 js) h1
  obtain ⟨x, y, rfl⟩ := bl2 hB
  obtain ⟨rfl, rfl⟩ := do_shuf (mv110 _) rfl h1
  obtain ⟨k2, j2, h2, t2⟩ := times_cons t1
  replace h2 : doL 109 ((A ++ [x, y]) ++ [x, y]) j1 = (k2, j2, 0) := by simpa [pickL] using h2
  obtain ⟨rfl, rfl⟩ := do_shuf (mv109 _) rfl h2
  obtain ⟨rfl, rfl⟩ := times_nil t2
  exact ⟨by simp [pickL], rfl⟩
theorem tw111_109_117 {ks js k j : BL} (h : timesL [111, 109, 117] ks js = (k, j, true)) : k = ks ∧ j = js := by
  obtain ⟨k1, j1, h1, t1⟩ := times_cons h
  obtain ⟨A, B, rfl, hB⟩ := do_split (mv111 js) h1
  obtain ⟨x, y, z, rfl⟩ := bl3 hB
  obtain ⟨rfl, rfl⟩ := do_shuf (mv111 _) rfl h1
  obtain ⟨k2, j2, h2, t2⟩ := times_cons t1
  replace h2 : doL 109 ((A ++ [x, y, z, x]) ++ [y, z]) j1 = (k2, j2, 0) := by simpa [pickL] using h2
  obtain ⟨rfl, rfl⟩ := do_shuf (mv109 _) rfl h2
  obtain ⟨k3, j3, h3, t3⟩ := times_cons t2
  replace h3 : doL 117 ((A ++ [x, y, z]) ++ [x]) j2 = (k3, j3, 0) := by simpa [pickL] using h3
  obtain ⟨rfl, rfl⟩ := do_shuf (mv117 _) rfl h3
  obtain ⟨rfl, rfl⟩ := times_nil t3
  exact ⟨by simp [pickL], rfl⟩
theorem tw112_109 {ks js k j : BL} (h : timesL [112, 109] ks js = (k, j, true)) : k = ks ∧ j = js := by
  obtain ⟨k1, j1, h1, t1⟩ := times_cons h
  obtain ⟨A, B, rfl, hB⟩ := do_split (mv112 js) h1
  obtain ⟨x, y, z, u, rfl⟩ := bl4 hB
  obtain ⟨rfl, rfl⟩ := do_shuf (mv112 _) rfl h1
  obtain ⟨k2, j2, h2, t2⟩ := times_cons t1
  replace h2 : doL 109 ((A ++ [x, y, z, u]) ++ [x, y]) j1 = (k2, j2, 0) := by simpa [pickL] using h2
  obtain ⟨rfl, rfl⟩ := do_shuf (mv109 _) rfl h2
  obtain ⟨rfl, rfl⟩ := times_nil t2
  exact ⟨by simp [pickL], rfl⟩
theorem tw125_117_124 {ks js k j : BL} (h : timesL [125, 117, 124] ks js = (k, j, true)) : k = ks ∧ j = js := by
  obtain ⟨k1, j1, h1, t1⟩ := times_cons h
  obtain ⟨A, B, rfl, hB⟩ := do_split (mv125 js) h1
  obtain ⟨x, y, rfl⟩ := bl2 hB
  obtain ⟨rfl, rfl⟩ := do_shuf (mv125 _) rfl h1
  obtain ⟨k2, j2, h2, t2⟩ := times_cons t1
  replace h2 : doL 117 ((A ++ [y, x]) ++ [y]) j1 = (k2, j2, 0) := by simpa [pickL] using h2
  obtain ⟨rfl, rfl⟩ := do_shuf (mv117 _) rfl h2
  obtain ⟨k3, j3, h3, t3⟩ := times_cons t2
  replace h3 : doL 124 ((A) ++ [y, x]) j2 = (k3, j3, 0) := by simpa [pickL] using h3
  obtain ⟨rfl, rfl⟩ := do_shuf (mv124 _) rfl h3
  obtain ⟨rfl, rfl⟩ := times_nil t3
  exact ⟨by simp [pickL], rfl⟩
theorem mv97 (ks js : BL) : movL 97 ks js 0 = (true, ks, js, 0) := by simp [movL]
theorem mv107 (ks js : BL) : movL 107 ks js 0 = (true, (popL ks 0).2.1, js ++ [(popL ks 0).1], (popL ks 0).2.2) := by simp [movL]
theorem mv108 (ks js : BL) : movL 108 ks js 0 = (true, backL ks js 0) := by simp [movL]
theorem tw97 {ks js k j : BL} (h : timesL [97] ks js = (k, j, true)) : k = ks ∧ j = js := by
  obtain ⟨k1, j1, h1, t1⟩ := times_cons h
  obtain ⟨rfl, rfl, _⟩ := do_cut (mv97 ks js) h1
  exact times_nil t1
theorem pop_snoc {A : BL} {x : List UInt8} : popL (A ++ [x]) 0 = (x, A, 0) := by
  rw [pop_at (by simp)]
  simp [lastB]
theorem pop_less {ks : BL} (h : ks.length = 0) : popL ks 0 = ([], ks, 12) := by
  have h1 : needE ks.length 1 0 = 12 := by unfold needE; rw [if_pos (by omega)]; rfl
  unfold popL
  rw [if_neg (by rw [h1]; decide), h1]
theorem snoc_of {ks : BL} (h : ks.length ≠ 0) : ∃ A x, ks = A ++ [x] := by
  refine ⟨ks.take (ks.length - 1), ks.getD (ks.length - 1) [], ?_⟩
  have hl : ks.length - 1 < ks.length := by omega
  have h1 : ks.getD (ks.length - 1) [] = ks[ks.length - 1] := by simp [List.getD_eq_getElem?_getD, hl]
  rw [h1]
  have := List.take_append_getElem (l := ks) (i := ks.length - 1) hl
  rw [this, show ks.length - 1 + 1 = ks.length by omega, List.take_length]
theorem tw107 {ks js k j : BL} (h : timesL [107, 108] ks js = (k, j, true)) : k = ks ∧ j = js := by
  obtain ⟨k1, j1, h1, t1⟩ := times_cons h
  by_cases h0 : ks.length = 0
  · have h2 := mv107 ks js
    rw [pop_less h0] at h2
    exact absurd (show 12 = 0 from (do_cut h2 h1).2.2) (by decide)
  obtain ⟨A, x, rfl⟩ := snoc_of h0
  have h2 := mv107 (A ++ [x]) js
  rw [pop_snoc] at h2
  dsimp only at h2
  obtain ⟨rfl, rfl, _⟩ := do_cut h2 h1
  obtain ⟨k2, j2, h3, t2⟩ := times_cons t1
  have h4 := mv108 k1 (js ++ [x])
  rw [show backL k1 (js ++ [x]) 0 = (k1 ++ [x], js, 0) by simp [backL, lastB]] at h4
  obtain ⟨rfl, rfl, _⟩ := do_cut h4 h3
  exact times_nil t2
theorem no_mov {op : Nat} {ks js : BL} (h : movL op ks js 0 = (false, ks, js, 0)) {k j k1 : BL} {e : Nat} (hr : redL op ks 0 = (true, k1, e)) (hd : doL op ks js = (k, j, 0)) : k = k1 ∧ j = js ∧ e = 0 := by
  unfold doL at hd
  simp only [h, hr, if_true, Bool.false_eq_true, if_false] at hd
  obtain ⟨h1, h2, h3, _⟩ := don_inv hd
  exact ⟨h2, h3, h1⟩
theorem tw130 {ks js k j : BL} (h : timesL [130, 117] ks js = (k, j, true)) : k = ks ∧ j = js := by
  obtain ⟨k1, j1, h1, t1⟩ := times_cons h
  have hm : movL 130 ks js 0 = (false, ks, js, 0) := by simp [movL]
  obtain ⟨s, hs⟩ : ∃ x, sizL ks 0 = x := ⟨_, rfl⟩
  have hr : redL 130 ks 0 = (true, s) := by simp [redL, hs]
  obtain ⟨rfl, rfl, he⟩ := no_mov hm (k1 := s.1) (e := s.2) hr h1
  have h2 : s.1 = ks ++ [enc ((lastB ks).length : Int)] := by
    rw [← hs] at he ⊢
    unfold sizL at he ⊢
    split
    · rfl
    · rename_i hn; rw [if_neg hn] at he; exact absurd he hn
  rw [h2] at t1
  obtain ⟨k2, j2, h3, t2⟩ := times_cons t1
  obtain ⟨rfl, rfl⟩ := do_shuf (A := ks) (B := [enc ((lastB ks).length : Int)]) (mv117 _) rfl h3
  obtain ⟨rfl, rfl⟩ := times_nil t2
  exact ⟨by simp [pickL], rfl⟩
theorem tw116 {ks js k j : BL} (h : timesL [116, 117] ks js = (k, j, true)) : k = ks ∧ j = js := by
  obtain ⟨k1, j1, h1, t1⟩ := times_cons h
  have hm : movL 116 ks js 0 = (false, ks, js, 0) := by simp [movL]
  have hr : redL 116 ks 0 = (true, ks ++ [enc (ks.length : Int)], 0) := by simp [redL]
  obtain ⟨rfl, rfl, _⟩ := no_mov hm hr h1
  obtain ⟨k2, j2, h3, t2⟩ := times_cons t1
  obtain ⟨rfl, rfl⟩ := do_shuf (A := ks) (B := [enc (ks.length : Int)]) (mv117 _) rfl h3
  obtain ⟨rfl, rfl⟩ := times_nil t2
  exact ⟨by simp [pickL], rfl⟩
def twRows : BL := [[97], [124, 124], [114, 114], [123, 123, 123], [113, 113, 113], [107, 108], [118, 117], [120, 117], [110, 109], [111, 109, 117], [112, 109], [130, 117], [116, 117], [125, 117, 124]]
theorem twice {i : Nat} {r : List UInt8} (hr : twRows[i]? = some r) {ks js k j : BL} (h : timesL r ks js = (k, j, true)) : k = ks ∧ j = js := by
  have hi := (List.getElem?_eq_some_iff.1 hr).1
  have hm := List.mem_of_getElem? hr
  simp only [twRows, List.mem_cons, List.not_mem_nil, or_false] at hm
  rcases hm with rfl | rfl | rfl | rfl | rfl | rfl | rfl | rfl | rfl | rfl | rfl | rfl | rfl | rfl
  · exact tw97 h
  · exact tw124_124 h
  · exact tw114_114 h
  · exact tw123_123_123 h
  · exact tw113_113_113 h
  · exact tw107 h
  · exact tw118_117 h
  · exact tw120_117 h
  · exact tw110_109 h
  · exact tw111_109_117 h
  · exact tw112_109 h
  · exact tw130 h
  · exact tw116 h
  · exact tw125_117_124 h
end Go.Proofs.Ytikkhkjndbicgaa

/- Stacks that stay as they are: copies of entries, literals. -/
namespace Go.Proofs.Ytikkhkjndbicgaa
open Go.RowKit
section
variable {P : Program} {a : Act} {w : World} {n : Nat} {w0 : Bs} {fs : List Sl} {bs : List Bl} {vs us xs : List Value} {ks js ts : BL} {G : Nat → Prop}
theorem St.dup (hs : St n w0 fs bs a w) (k : Nat) {e : Fz} (h : w0.S[k]? = some (true, e)) (ho : e.ownless = true) : St n (w0.withS (putS none w0.S [e])) fs bs a w := by
  have h1 := hs.all h ho
  cases e with
  | cel _ _ _ => exact hs.pushS none rfl (okl1 h1)
  | bys _ _ => exact hs.pushS none rfl (okl1 h1)
  | own _ _ _ _ _ => cases ho
  | bysO _ _ _ => cases ho
  | wrs _ _ _ => cases ho
theorem St.splitY (hs : St n w0 fs bs a w) (k : Nat) (h : w0.S[k]? = some (true, .bys (vs ++ us ++ xs) (ks ++ js ++ ts))) (hl : vs.length = ks.length) (hu : us.length = js.length) :
    St n (w0.withS (putS none (putS none w0.S [.bys vs ks]) [.bys us js])) fs bs a w := by
  have h1 := hs.all h rfl
  have f : ∀ vs' ks', vs'.length = ks'.length → (∀ p ∈ vs'.zip ks', p ∈ (vs ++ us ++ xs).zip (ks ++ js ++ ts)) → BysV w (Zall w0 bs) vs' ks' := fun vs' ks' hl' hp => bysv_iff.2 ⟨hl', fun p h => (bysv_iff.1 h1).2 p (hp p h)⟩
  have hs1 := hs.pushS none (L := [.bys vs ks]) rfl (okl1 (f vs ks hl fun p hp => mem_main hl hp))
  have h2 : (w0.withS (putS none w0.S [.bys vs ks])).S[k]? = some (true, .bys (vs ++ us ++ xs) (ks ++ js ++ ts)) := by
    simp only [putS]
    rw [List.getElem?_append_left (List.getElem?_eq_some_iff.1 h).1]; exact h
  have h3 := hs1.all h2 rfl
  exact hs1.pushS none rfl (okl1 (bysv_iff.2 ⟨hu, fun p hp => (bysv_iff.1 h3).2 p (mem_alt hl hu hp)⟩))
end
theorem le_one {n : Nat} (h0 : 0 < n) (h : n < 256) : le n = [UInt8.ofNat n] := by
  rw [le_pos n (by omega), Nat.mod_eq_of_lt h, Nat.div_eq_of_lt h, le_zero]
theorem enc_one {n : Nat} (h0 : 0 < n) (h : n < 128) : enc (n : Int) = [UInt8.ofNat n] := by
  unfold enc
  rw [show (n : Int).natAbs = n from Int.natAbs_natCast n, le_one h0 (by omega), decide_eq_false (by omega)]
  have h1 : (UInt8.ofNat n).toNat = n := by simp; omega
  have h2 := sgn_low (xs := [UInt8.ofNat n]) (N := 0) (c := n) false rfl h1 h
  rw [h2]; rfl
theorem dec_one {n : Nat} (h0 : 0 < n) (h : n < 128) : decN [UInt8.ofNat n] 4 = ((n : Int), 0) := by
  have h1 : (UInt8.ofNat n).toNat = n := by simp; omega
  have hv : val [UInt8.ofNat n] = (n : Int) := by
    rw [val_low [UInt8.ofNat n] 0 n rfl h1 h]
    simp [vl]
  unfold decN decOk
  rw [hv, enc_one h0 h]
  simp
theorem do_147 : doL 147 [[UInt8.ofNat 2], [UInt8.ofNat 3]] [] = ([[UInt8.ofNat 5]], [], 0) := by
  have h2 := dec_one (n := 2) (by decide) (by decide)
  have h3 := dec_one (n := 3) (by decide) (by decide)
  have h5 := enc_one (n := 5) (by decide) (by decide)
  have hm : movL 147 [[UInt8.ofNat 2], [UInt8.ofNat 3]] [] 0 = (false, [[UInt8.ofNat 2], [UInt8.ofNat 3]], [], 0) := by simp [movL]
  have hr : redL 147 [[UInt8.ofNat 2], [UInt8.ofNat 3]] 0 = (false, [[UInt8.ofNat 2], [UInt8.ofNat 3]], 0) := by simp [redL]
  have ho : opsL 2 [[UInt8.ofNat 2], [UInt8.ofNat 3]] 0 = ([2, 3], [], 0) := by
    have p1 : popL [[UInt8.ofNat 2], [UInt8.ofNat 3]] 0 = ([UInt8.ofNat 3], [[UInt8.ofNat 2]], 0) := pop_snoc (A := [[UInt8.ofNat 2]])
    have p2 : popL [[UInt8.ofNat 2]] 0 = ([UInt8.ofNat 2], [], 0) := pop_snoc (A := [])
    have r1 : readL [UInt8.ofNat 3] 4 0 = (3, 0) := h3
    have r2 : readL [UInt8.ofNat 2] 4 0 = (2, 0) := h2
    unfold opsL
    rw [if_pos (by decide), opsR_step (n := 1) p1 r1, opsR_step (n := 0) p2 r2]
    rfl
  have hc : recL 147 [[UInt8.ofNat 2], [UInt8.ofNat 3]] 0 = (true, [[UInt8.ofNat 5]], 0) := by
    unfold recL
    rw [if_neg (by decide), if_neg (by decide), if_neg (by decide), if_neg (by decide), ho]
    show (true, ([] : BL) ++ [enc ((5 : Nat) : Int)], 0) = _
    rw [h5]; rfl
  unfold doL
  simp only [hm, hr, hc, Bool.false_eq_true, if_false, if_true]
  decide
theorem do_255 : doL 255 [] [] = ([], [], 10) := by decide
theorem do_126 : doL 126 [[UInt8.ofNat 1], [UInt8.ofNat 2]] [] = ([[UInt8.ofNat 1, UInt8.ofNat 2]], [], 0) := by decide
theorem St.bysEq {a : Act} {w : World} {n : Nat} {w0 : Bs} {fs : List Sl} {bs : List Bl} (hs : St n w0 fs bs a w) (k : Nat) {vs vs' : List Value} {ls ls' : BL} (h : w0.S[k]? = some (true, .bys vs ls)) (hv : vs = vs') (hl : ls = ls') : St n (w0.withS (w0.S.set k (true, .bys vs' ls'))) fs bs a w := by
  subst hv; subst hl
  exact hs.conS k h (fun Z hz => hz) (fun g hg => hg)
theorem celv_max {w : World} {Z : Nat → Prop} {a : Option Addr} {n c : Nat} {cs : List Value} (h : CelV w Z (.slice a n c) n cs) : n ≤ 9223372036854775807 := by
  obtain ⟨a', c', e, h1, h2, _⟩ := h
  have hm : maxLen = 9223372036854775807 := rfl
  omega
theorem times_step {l : List UInt8} {i : Nat} (h : i < l.length) (ks js : BL) : timesL (l.drop i) ks js = if (doL (byt l i) ks js).2.2 = 0 then timesL (l.drop (i + 1)) (doL (byt l i) ks js).1 (doL (byt l i) ks js).2.1 else (ks, js, false) := by
  have h1 : l.drop i = l[i] :: l.drop (i + 1) := List.drop_eq_getElem_cons h
  have h2 : byt l i = l[i].toNat := by simp [byt, List.getD_eq_getElem?_getD, h]
  rw [h1, timesL, h2]
theorem times_go {l : List UInt8} {i : Nat} (h : i < l.length) {ks js k j : BL} {K : BL × BL × Bool} (h0 : K = timesL (l.drop i) ks js) (hd : doL (byt l i) ks js = (k, j, 0)) : K = timesL (l.drop (i + 1)) k j := by
  rw [h0, times_step h, hd]; rfl
theorem times_no {l : List UInt8} {i : Nat} (h : i < l.length) {ks js k j : BL} {e : Nat} {K : BL × BL × Bool} (h0 : K = timesL (l.drop i) ks js) (hd : doL (byt l i) ks js = (k, j, e)) (he : e ≠ 0) : K = (ks, js, false) := by
  rw [h0, times_step h, hd, if_neg he]
theorem times_end {l : List UInt8} {i : Nat} (h : ¬ i < l.length) {ks js : BL} {K : BL × BL × Bool} (h0 : K = timesL (l.drop i) ks js) : K = (ks, js, true) := by
  rw [h0, List.drop_eq_nil_of_le (by omega)]; rfl
theorem allB_go {ks : BL} {i : Nat} {y : List UInt8} (h : ks[i]? = some y) (hy : ¬ 600 < y.length) (h0 : allB 600 (ks.take i) = true) : allB 600 (ks.take (i + 1)) = true := by
  rw [← take_snocB h]
  unfold allB at h0 ⊢
  rw [List.all_append, h0]
  simp; omega
theorem allB_end {ks : BL} {i : Nat} (h : ¬ i < ks.length) (h0 : allB 600 (ks.take i) = true) : allB 600 ks = true := by rwa [List.take_of_length_le (by omega)] at h0
theorem allB_no {ks : BL} {i : Nat} {y : List UInt8} (h : ks[i]? = some y) (hy : 600 < y.length) : allB 600 ks = false := by
  cases hb : allB 600 ks with
  | false => rfl
  | true =>
    unfold allB at hb
    rw [List.all_eq_true] at hb
    have := hb y (List.mem_of_getElem? h)
    simp at this; omega
theorem small_len {ks js : BL} (h : 110 < ks.length ∨ 110 < js.length) : smallS ks js = false := by
  unfold smallS
  rcases h with h | h
  · rw [decide_eq_false (by omega)]; rfl
  · rw [decide_eq_false (show ¬ js.length ≤ 110 by omega), Bool.and_false]; rfl
theorem small_no1 {ks js : BL} (h : allB 600 ks = false) : smallS ks js = false := by unfold smallS; rw [h, Bool.and_false]; rfl
theorem small_no2 {ks js : BL} (h : allB 600 js = false) : smallS ks js = false := by unfold smallS; rw [h, Bool.and_false]
theorem small_yes {ks js : BL} (h1 : ¬ 110 < ks.length) (h2 : ¬ 110 < js.length) (h3 : allB 600 ks = true) (h4 : allB 600 js = true) : smallS ks js = true := by
  unfold smallS
  rw [h3, h4, decide_eq_true (by omega), decide_eq_true (by omega)]; rfl
theorem same_go {ks js : BL} {i : Nat} {y z : List UInt8} (hy : ks[i]? = some y) (hz : js[i]? = some z) (h : y = z) (h0 : ks.take i = js.take i) : ks.take (i + 1) = js.take (i + 1) := by
  rw [← take_snocB hy, ← take_snocB hz, h0, h]
theorem same_no {ks js : BL} {i : Nat} {y z : List UInt8} (hy : ks[i]? = some y) (hz : js[i]? = some z) (h : ¬ y = z) : ¬ ks = js := fun e => by
  subst e
  rw [hy] at hz
  exact h (Option.some.inj hz)
theorem same_end {ks js : BL} {i : Nat} (h : ¬ i < ks.length) (hl : ks.length = js.length) (h0 : ks.take i = js.take i) : ks = js := by
  rwa [List.take_of_length_le (by omega), List.take_of_length_le (by omega)] at h0
end Go.Proofs.Ytikkhkjndbicgaa

/- Stacks: the laws' own functions. -/
namespace Go.Proofs.Ytikkhkjndbicgaa
open Go.RowKit
set_option maxRecDepth 10000
set_option maxHeartbeats 1000000
theorem same1_c (a1 : Option Addr) (c1 : Nat) (v1 : List Value) (k1 : BL) (a2 : Option Addr) (c2 : Nat) (v2 : List Value) (k2 : BL) (q : Bool) (hq : decide (k1 = k2) = q) (w0 : World) (Z : Nat → Prop) (hV1 : CelV w0 Z (.slice a1 k1.length c1) k1.length v1) (hY1 : BysV w0 Z v1 k1) (hV2 : CelV w0 Z (.slice a2 k2.length c2) k2.length v2) (hY2 : BysV w0 Z v2 k2): Calls Try.prog 17 #[.slice a1 k1.length c1, .slice a2 k2.length c2] w0 fun e w' => Ret w0 Z (ρ := Unit) (fun r => .bool q) (fun r => []) e w' := by
  have hm1 := celv_max hV1
  refine enterS (n := 28) (args := [.slice a1 k1.length c1, .slice a2 k2.length c2]) (S := [(true, .cel (.slice a1 k1.length c1) k1.length v1), (true, .bys v1 k1), (true, .cel (.slice a2 k2.length c2) k2.length v2), (true, .bys v2 k2)]) (Z := Z) Try.func17 rfl rfl (Nat.le_of_ble_eq_true rfl) (sokC hV1 (sokC hY1 (sokC hV2 (sokC hY2 sok0)))) rfl fun ac hs => ?_
  refine wp_seq ?_
  refine wp_region_lit ?_
  refine lstep (wpO_plain rfl (op_assign hs none rfl rfl rfl rfl fun ac hs => ?_))
  refine wpList_nil ?_
  refine then_n ?_
  refine wp_seq ?_
  refine wp_seq ?_
  refine wp_region_lit ?_
  refine lstep (wpO_plain rfl (op_move hs none rfl rfl rfl rfl fun ac hs => ?_))
  refine lstep (wpO_plain rfl (op_blt hs none (v := .int .i64 ((k1.length : Nat) : Int)) rfl rfl rfl (blt_len Try.underlying22) rfl fun ac hs => ?_))
  refine lstep (wpO_plain rfl (op_move hs none rfl rfl rfl rfl fun ac hs => ?_))
  refine lstep (wpO_plain rfl (op_blt hs none (v := .int .i64 ((k2.length : Nat) : Int)) rfl rfl rfl (blt_len Try.underlying22) rfl fun ac hs => ?_))
  refine lstep (wpO_plain rfl (op_bin hs none (v := .bool (decide (k1.length ≠ k2.length))) rfl rfl rfl rfl (fun _ => rfl) (bin_neqN (x := k1.length) (y := k2.length)) rfl fun ac hs => ?_))
  refine wpList_nil ?_
  refine then_n ?_
  refine wp_cond_split (hs.ev rfl) (fun hc => ?_) (fun hc => ?_)
  · skip
    have hp1 := of_decide_eq_true hc
    have hne : ¬ k1 = k2 := fun e => of_decide_eq_true hc (congrArg List.length e)
    refine wp_seq ?_
    replace hs : St 28 ⟨w0, [], [(true, .cel (.slice a1 k1.length c1) k1.length v1), (true, .bys v1 k1), (true, .cel (.slice a2 k2.length c2) k2.length v2), (true, .bys v2 k2)], Z, noX⟩ [(0, true, .slice a1 k1.length c1), (1, true, .slice a2 k2.length c2), (4, true, .bool false)] [] ac _ := hs.re ⟨rfl, rfl, rfl, trivial⟩
    refine wp_region_lit ?_
    refine lstep (wpO_plain rfl (op_assign hs none rfl rfl rfl rfl fun ac hs => ?_))
    refine wpList_nil ?_
    refine then_n ?_
    refine wp_ret ?_
    refine then_r ?_
    exact bodyPost_ret (res1 rfl (rv_t hs rfl)) hs.defers ⟨(), by rw [← hq, decide_eq_false hne], hs.bel rfl, okl0⟩
  · skip
    have hp2 := of_decide_eq_false hc
    have hlen : k1.length = k2.length := Classical.not_not.1 (of_decide_eq_false hc)
    refine wp_skip ?_
    refine then_n ?_
    refine wp_seq ?_
    refine wp_seq ?_
    replace hs : St 28 ⟨w0, [], [(true, .cel (.slice a1 k1.length c1) k1.length v1), (true, .bys v1 k1), (true, .cel (.slice a2 k2.length c2) k2.length v2), (true, .bys v2 k2)], Z, noX⟩ [(0, true, .slice a1 k1.length c1), (1, true, .slice a2 k2.length c2), (4, true, .bool false)] [] ac _ := hs.re ⟨rfl, rfl, rfl, trivial⟩
    refine wp_region_lit ?_
    refine lstep (wpO_plain rfl (op_assign hs none rfl rfl rfl rfl fun ac hs => ?_))
    refine wpList_nil ?_
    refine then_n ?_
    refine wp_block ?_
    refine wp_loop_m (fun μ ac w => ∃ (i : Nat), (k1.length - i) = μ ∧ (i ≤ k1.length) ∧ (k1.take i = k2.take i) ∧ St 28 ⟨w0, [], [(true, .cel (.slice a1 k1.length c1) k1.length v1), (true, .bys v1 k1), (true, .cel (.slice a2 k2.length c2) k2.length v2), (true, .bys v2 k2)], Z, noX⟩ [(0, true, .slice a1 k1.length c1), (1, true, .slice a2 k2.length c2), (4, true, .bool false), (5, true, .int .i64 ((i : Nat) : Int))] [] ac w) ?_ ?_
    · exact ⟨_, 0, rfl, (by omega), rfl, (hs.re (fs' := [(0, true, .slice a1 k1.length c1), (1, true, .slice a2 k2.length c2), (4, true, .bool false), (5, true, .int .i64 ((0 : Nat) : Int))]) ⟨rfl, rfl, rfl, rfl, trivial⟩)⟩
    intro μ ac w ⟨i, hμ, hi, hti, hs⟩
    refine wp_seq ?_
    refine wp_seq ?_
    refine wp_region_lit ?_
    refine lstep (wpO_plain rfl (op_move hs none rfl rfl rfl rfl fun ac hs => ?_))
    refine lstep (wpO_plain rfl (op_move hs none rfl rfl rfl rfl fun ac hs => ?_))
    refine lstep (wpO_plain rfl (op_blt hs none (v := .int .i64 ((k1.length : Nat) : Int)) rfl rfl rfl (blt_len Try.underlying22) rfl fun ac hs => ?_))
    refine lstep (wpO_plain rfl (op_bin hs none (v := .bool (decide (i < k1.length))) rfl rfl rfl rfl (fun _ => rfl) (bin_lssN (x := i) (y := k1.length)) rfl fun ac hs => ?_))
    refine wpList_nil ?_
    refine then_n ?_
    refine wp_cond_split (hs.ev rfl) (fun hc => ?_) (fun hc => ?_)
    · skip
      have hp3 := of_decide_eq_true hc
      have hlt := of_decide_eq_true hc
      obtain ⟨y, hy⟩ : ∃ q, k1[i]? = some q := ⟨_, List.getElem?_eq_getElem hlt⟩
      obtain ⟨z, hz⟩ : ∃ q, k2[i]? = some q := ⟨_, List.getElem?_eq_getElem (by omega)⟩
      obtain ⟨ay, cy, hvy⟩ := bysv_at (hs.all (k := 1) rfl rfl) hy
      obtain ⟨az, cz, hvz⟩ := bysv_at (hs.all (k := 3) rfl rfl) hz
      replace hs := hs.pick none 1 rfl hvy hy rfl
      replace hs := hs.pick none 3 rfl hvz hz rfl
      refine wp_skip ?_
      refine then_n ?_
      refine wp_seq ?_
      refine wp_block ?_
      refine wp_seq ?_
      replace hs : St 28 ⟨w0, [], [(true, .cel (.slice a1 k1.length c1) k1.length v1), (true, .bys v1 k1), (true, .cel (.slice a2 k2.length c2) k2.length v2), (true, .bys v2 k2), (true, .cel (.slice ay y.length cy) y.length (bcs y)), (true, .cel (.slice az z.length cz) z.length (bcs z))], Z, noX⟩ [(0, true, .slice a1 k1.length c1), (1, true, .slice a2 k2.length c2), (4, true, .bool false), (5, true, .int .i64 ((i : Nat) : Int))] [] ac _ := hs.re ⟨rfl, rfl, rfl, rfl, trivial⟩
      refine region_inv [([], [2, 3, 4, 10]), ([], [2, 3, 4, 10]), ([0, 1], [3, 4, 10]), ([0, 1, 2], [4, 10]), ([0, 1, 2, 3], [10]), ([], [7, 8, 9, 10]), ([], [7, 8, 9, 10]), ([5, 6], [8, 9, 10]), ([5, 6, 7], [9, 10]), ([5, 6, 7, 8], [10]), ([0, 1, 2, 3, 4, 5, 6, 7, 8, 9], [])] (fun L ac w => St 28 ⟨w0, [], [(true, .cel (.slice a1 k1.length c1) k1.length v1), (true, .bys v1 k1), (true, .cel (.slice a2 k2.length c2) k2.length v2), (true, .bys v2 k2), (true, .cel (.slice ay y.length cy) y.length (bcs y)), (true, .cel (.slice az z.length cz) z.length (bcs z))], Z, noX⟩ [(17, L 0, .slice a1 k1.length c1), (18, L 1, .int .i64 ((i : Nat) : Int)), (19, L 2, vidx (.slice a1 k1.length c1) i), (20, L 3, .slice ay y.length cy), (21, L 4, .string (txt y)), (22, L 5, .slice a2 k2.length c2), (23, L 6, .int .i64 ((i : Nat) : Int)), (24, L 7, vidx (.slice a2 k2.length c2) i), (25, L 8, .slice az z.length cz), (26, L 9, .string (txt z)), (27, L 10, .bool (!decide (y = z))), (0, true, .slice a1 k1.length c1), (1, true, .slice a2 k2.length c2), (4, true, .bool false), (5, true, .int .i64 ((i : Nat) : Int))] [] ac w) (by kernel_rfl) (by kernel_rfl) ?_ ?_ ?_
      · exact hs.drew.skip.skip.skip.skip.skip.skip.skip.skip.skip.skip.skip
      · refine ⟨?_, ?_, ?_, ?_, ?_, ?_, ?_, ?_, ?_, ?_, ?_, trivial⟩
        · intro L ac w hJ
          have hs := hJ
          refine wpO_plain rfl (op_move hs (some 0) rfl rfl rfl rfl fun ac hs => ?_)
          exact hs
        · intro L ac w hJ
          have hs := hJ
          refine wpO_plain rfl (op_move hs (some 1) rfl rfl rfl rfl fun ac hs => ?_)
          exact hs
        · intro L ac w hJ
          have hs := hJ
          refine wpO_plain rfl (op_idxC hs (some 2) 0 (j := i) rfl rfl rfl rfl rfl Try.underlying22 Try.sizeOf34 (show i < k1.length by omega) (off := i) (by omega) rfl fun ac hs => ?_)
          exact hs
        · intro L ac w hJ
          have hs := hJ
          refine wpO_plain rfl (op_loadC hs (some 3) 0 (u := .slice ay y.length cy) rfl rfl rfl rfl Try.isAgg34 Try.sizeOf34 (by decide) hvy rfl fun ac hs => ?_)
          exact hs
        · intro L ac w hJ
          have hs := hJ
          refine wpO_plain rfl (op_convBS hs (some 4) 4 rfl rfl rfl rfl rfl Try.underlying34 Try.underlying5 Try.underlying9 rfl fun ac hs => ?_)
          exact hs
        · intro L ac w hJ
          have hs := hJ
          refine wpO_plain rfl (op_move hs (some 5) rfl rfl rfl rfl fun ac hs => ?_)
          exact hs
        · intro L ac w hJ
          have hs := hJ
          refine wpO_plain rfl (op_move hs (some 6) rfl rfl rfl rfl fun ac hs => ?_)
          exact hs
        · intro L ac w hJ
          have hs := hJ
          refine wpO_plain rfl (op_idxC hs (some 7) 2 (j := i) rfl rfl rfl rfl rfl Try.underlying22 Try.sizeOf34 (show i < k2.length by omega) (off := i) (by omega) rfl fun ac hs => ?_)
          exact hs
        · intro L ac w hJ
          have hs := hJ
          refine wpO_plain rfl (op_loadC hs (some 8) 2 (u := .slice az z.length cz) rfl rfl rfl rfl Try.isAgg34 Try.sizeOf34 (by decide) hvz rfl fun ac hs => ?_)
          exact hs
        · intro L ac w hJ
          have hs := hJ
          refine wpO_plain rfl (op_convBS hs (some 9) 5 rfl rfl rfl rfl rfl Try.underlying34 Try.underlying5 Try.underlying9 rfl fun ac hs => ?_)
          exact hs
        · intro L ac w hJ
          have hs := hJ
          refine wpO_plain rfl (op_bin hs (some 10) (v := .bool (!decide (y = z))) rfl rfl rfl rfl (fun _ => rfl) (bin_neqT (by simp)) rfl fun ac hs => ?_)
          exact hs
      intro ac w hJ
      replace hs : St 28 ⟨w0, [], [(true, .cel (.slice a1 k1.length c1) k1.length v1), (true, .bys v1 k1), (true, .cel (.slice a2 k2.length c2) k2.length v2), (true, .bys v2 k2), (true, .cel (.slice ay y.length cy) y.length (bcs y)), (true, .cel (.slice az z.length cz) z.length (bcs z))], Z, noX⟩ [(17, true, .slice a1 k1.length c1), (18, true, .int .i64 ((i : Nat) : Int)), (19, true, vidx (.slice a1 k1.length c1) i), (20, true, .slice ay y.length cy), (21, true, .string (txt y)), (22, true, .slice a2 k2.length c2), (23, true, .int .i64 ((i : Nat) : Int)), (24, true, vidx (.slice a2 k2.length c2) i), (25, true, .slice az z.length cz), (26, true, .string (txt z)), (27, true, .bool (!decide (y = z))), (0, true, .slice a1 k1.length c1), (1, true, .slice a2 k2.length c2), (4, true, .bool false), (5, true, .int .i64 ((i : Nat) : Int))] [] ac w := hJ
      refine then_n ?_
      refine wp_cond_split (hs.ev rfl) (fun hc => ?_) (fun hc => ?_)
      · skip
        have hyz : ¬ y = z := by simpa using hc
        refine wp_seq ?_
        refine wp_region_lit ?_
        refine lstep (wpO_plain rfl (op_assign hs none rfl rfl rfl rfl fun ac hs => ?_))
        refine wpList_nil ?_
        refine then_n ?_
        refine wp_ret ?_
        refine blk_r ?_
        refine then_r ?_
        refine then_r ?_
        refine blk_r ?_
        refine then_r ?_
        exact bodyPost_ret (res1 rfl (rv_t hs rfl)) hs.defers ⟨(), by rw [← hq, decide_eq_false (same_no hy hz hyz)], hs.bel rfl, okl0⟩
      · skip
        have hyz : y = z := by simpa using hc
        refine wp_skip ?_
        refine blk_n ?_
        refine then_n ?_
        refine wp_region_lit ?_
        refine lstep (wpO_plain rfl (op_move hs none rfl rfl rfl rfl fun ac hs => ?_))
        refine lstep (wpO_plain rfl (op_bin hs none (v := .int .i64 ((i + 1 : Nat) : Int)) rfl rfl rfl rfl (fun _ => rfl) (bin_addN (x := i) (y := 1) (z := i + 1) rfl (show i + 1 < 9223372036854775808 by omega)) rfl fun ac hs => ?_))
        refine lstep (wpO_plain rfl (op_assign hs none rfl rfl rfl rfl fun ac hs => ?_))
        refine wpList_nil ?_
        refine then_n ?_
        replace hs := hs.selS [0, 1, 2, 3] rfl (by decide)
        exact ⟨_, ⟨(i + 1), rfl, (by omega), (same_go hy hz hyz hti), (hs.re (fs' := [(0, true, .slice a1 k1.length c1), (1, true, .slice a2 k2.length c2), (4, true, .bool false), (5, true, .int .i64 (((i + 1) : Nat) : Int))]) ⟨rfl, rfl, rfl, rfl, trivial⟩)⟩, (by omega)⟩
    · skip
      have hp4 := of_decide_eq_false hc
      have hge := of_decide_eq_false hc
      refine wp_exit ?_
      refine then_e ?_
      refine then_e ?_
      refine blk_e ?_
      refine then_n ?_
      refine wp_seq ?_
      refine wp_region_lit ?_
      refine lstep (wpO_plain rfl (op_assign hs none rfl rfl rfl rfl fun ac hs => ?_))
      refine wpList_nil ?_
      refine then_n ?_
      refine wp_ret ?_
      exact bodyPost_ret (res1 rfl (rv_t hs rfl)) hs.defers ⟨(), by rw [← hq, decide_eq_true (same_end hge hlen hti)], hs.bel rfl, okl0⟩
theorem same2_c (a1 : Option Addr) (c1 : Nat) (v1 : List Value) (k1 : BL) (a2 : Option Addr) (c2 : Nat) (v2 : List Value) (k2 : BL) (a3 : Option Addr) (c3 : Nat) (v3 : List Value) (k3 : BL) (a4 : Option Addr) (c4 : Nat) (v4 : List Value) (k4 : BL) (q : Bool) (hq : decide (k1 = k3 ∧ k2 = k4) = q) (w0 : World) (Z : Nat → Prop) (hV1 : CelV w0 Z (.slice a1 k1.length c1) k1.length v1) (hY1 : BysV w0 Z v1 k1) (hV2 : CelV w0 Z (.slice a2 k2.length c2) k2.length v2) (hY2 : BysV w0 Z v2 k2) (hV3 : CelV w0 Z (.slice a3 k3.length c3) k3.length v3) (hY3 : BysV w0 Z v3 k3) (hV4 : CelV w0 Z (.slice a4 k4.length c4) k4.length v4) (hY4 : BysV w0 Z v4 k4): Calls Try.prog 13 #[.agg #[.slice a1 k1.length c1, .slice a2 k2.length c2], .agg #[.slice a3 k3.length c3, .slice a4 k4.length c4]] w0 fun e w' => Ret w0 Z (ρ := Unit) (fun r => .bool q) (fun r => []) e w' := by
  refine enterS (n := 17) (args := [.agg #[.slice a1 k1.length c1, .slice a2 k2.length c2], .agg #[.slice a3 k3.length c3, .slice a4 k4.length c4]]) (S := [(true, .cel (.slice a1 k1.length c1) k1.length v1), (true, .bys v1 k1), (true, .cel (.slice a2 k2.length c2) k2.length v2), (true, .bys v2 k2), (true, .cel (.slice a3 k3.length c3) k3.length v3), (true, .bys v3 k3), (true, .cel (.slice a4 k4.length c4) k4.length v4), (true, .bys v4 k4)]) (Z := Z) Try.func13 rfl rfl (Nat.le_of_ble_eq_true rfl) (sokC hV1 (sokC hY1 (sokC hV2 (sokC hY2 (sokC hV3 (sokC hY3 (sokC hV4 (sokC hY4 sok0)))))))) rfl fun ac hs => ?_
  refine wp_seq ?_
  refine wp_region_lit ?_
  refine lstep (wpO_plain rfl (op_box hs none none (cs := [.slice a1 k1.length c1, .slice a2 k2.length c2]) rfl rfl rfl rfl rfl rfl fun g1 ac w hs => ?_))
  refine lstep (wpO_plain rfl (op_box hs none none (cs := [.slice a3 k3.length c3, .slice a4 k4.length c4]) rfl rfl rfl rfl rfl rfl fun g2 ac w hs => ?_))
  refine lstep (wpO_plain rfl (op_assign hs none rfl rfl rfl rfl fun ac hs => ?_))
  refine wpList_nil ?_
  refine then_n ?_
  refine wp_seq ?_
  by_cases hq3 : k1 = k3
  · skip
    refine wp_region_lit ?_
    refine lstep (wpO_plain rfl (op_fieldA hs none rfl rfl rfl Try.underlying24 rfl Try.sizeOf22 (by decide) rfl fun ac hs => ?_))
    refine lstep (wpO_plain rfl (op_load hs none 0 (v := .slice a1 k1.length c1) rfl rfl rfl rfl Try.isAgg22 Try.sizeOf22 rfl rfl fun ac hs => ?_))
    refine lstep (wpO_plain rfl (op_fieldA hs none rfl rfl rfl Try.underlying24 rfl Try.sizeOf22 (by decide) rfl fun ac hs => ?_))
    refine lstep (wpO_plain rfl (op_load hs none 1 (v := .slice a3 k3.length c3) rfl rfl rfl rfl Try.isAgg22 Try.sizeOf22 rfl rfl fun ac hs => ?_))
    refine lstep (wpO_plain rfl (op_callV (F := 17) (ρ := Unit) hs none none (v := fun r => .bool true) (E := fun r => []) (j := 0) rfl rfl rfl rfl (Try.call17 _) (fun hs => same1_c a1 c1 v1 k1 a3 c3 v3 k3 true (decide_eq_true hq3) _ _ (hs.celT (k := 0) rfl) (hs.rowB (k := 1) (G := noX) (.inr rfl)) (hs.celT (k := 4) rfl) (hs.rowB (k := 5) (G := noX) (.inr rfl))) (fun _ => rfl) (fun _ => rfl) rfl rfl fun _ ac w hs => ?_))
    refine lstep (wpO_plain rfl (op_move hs none rfl rfl rfl rfl fun ac hs => ?_))
    refine lstep (wpO_in hs rfl rfl rfl (op_fieldA hs none rfl rfl rfl Try.underlying24 rfl Try.sizeOf22 (by decide) rfl fun ac hs => ?_))
    refine lstep (wpO_in hs rfl rfl rfl (op_load hs none 0 (v := .slice a2 k2.length c2) rfl rfl rfl rfl Try.isAgg22 Try.sizeOf22 rfl rfl fun ac hs => ?_))
    refine lstep (wpO_in hs rfl rfl rfl (op_fieldA hs none rfl rfl rfl Try.underlying24 rfl Try.sizeOf22 (by decide) rfl fun ac hs => ?_))
    refine lstep (wpO_in hs rfl rfl rfl (op_load hs none 1 (v := .slice a4 k4.length c4) rfl rfl rfl rfl Try.isAgg22 Try.sizeOf22 rfl rfl fun ac hs => ?_))
    refine lstep (wpO_in hs rfl rfl rfl (op_callV (F := 17) (ρ := Unit) hs none none (v := fun r => .bool (decide (k2 = k4))) (E := fun r => []) (j := 0) rfl rfl rfl rfl (Try.call17 _) (fun hs => same1_c a2 c2 v2 k2 a4 c4 v4 k4 (decide (k2 = k4)) rfl _ _ (hs.celT (k := 2) rfl) (hs.rowB (k := 3) (G := noX) (.inr rfl)) (hs.celT (k := 6) rfl) (hs.rowB (k := 7) (G := noX) (.inr rfl))) (fun _ => rfl) (fun _ => rfl) rfl rfl fun _ ac w hs => ?_))
    refine lstep (wpO_plain rfl (op_pickT hs none rfl rfl rfl rfl rfl fun ac hs => ?_))
    refine lstep (wpO_plain rfl (op_assign hs none rfl rfl rfl rfl fun ac hs => ?_))
    refine wpList_nil ?_
    refine then_n ?_
    refine wp_ret ?_
    exact bodyPost_ret (res1 rfl (rv_t hs rfl)) hs.defers ⟨(), by rw [← hq]; exact congrArg (fun b => Ending.returned (.bool b)) (decide_eq_decide.2 ⟨fun e => ⟨hq3, e⟩, fun e => e.2⟩), hs.bel rfl, okl0⟩
  · skip
    refine wp_region_lit ?_
    refine lstep (wpO_plain rfl (op_fieldA hs none rfl rfl rfl Try.underlying24 rfl Try.sizeOf22 (by decide) rfl fun ac hs => ?_))
    refine lstep (wpO_plain rfl (op_load hs none 0 (v := .slice a1 k1.length c1) rfl rfl rfl rfl Try.isAgg22 Try.sizeOf22 rfl rfl fun ac hs => ?_))
    refine lstep (wpO_plain rfl (op_fieldA hs none rfl rfl rfl Try.underlying24 rfl Try.sizeOf22 (by decide) rfl fun ac hs => ?_))
    refine lstep (wpO_plain rfl (op_load hs none 1 (v := .slice a3 k3.length c3) rfl rfl rfl rfl Try.isAgg22 Try.sizeOf22 rfl rfl fun ac hs => ?_))
    refine lstep (wpO_plain rfl (op_callV (F := 17) (ρ := Unit) hs none none (v := fun r => .bool false) (E := fun r => []) (j := 0) rfl rfl rfl rfl (Try.call17 _) (fun hs => same1_c a1 c1 v1 k1 a3 c3 v3 k3 false (decide_eq_false hq3) _ _ (hs.celT (k := 0) rfl) (hs.rowB (k := 1) (G := noX) (.inr rfl)) (hs.celT (k := 4) rfl) (hs.rowB (k := 5) (G := noX) (.inr rfl))) (fun _ => rfl) (fun _ => rfl) rfl rfl fun _ ac w hs => ?_))
    refine lstep (wpO_plain rfl (op_move hs none rfl rfl rfl rfl fun ac hs => ?_))
    refine lstep (wpO_out hs none rfl rfl (.inl rfl) rfl rfl fun ac hs => ?_)
    refine lstep (wpO_out hs none rfl rfl (.inl rfl) rfl rfl fun ac hs => ?_)
    refine lstep (wpO_out hs none rfl rfl (.inl rfl) rfl rfl fun ac hs => ?_)
    refine lstep (wpO_out hs none rfl rfl (.inl rfl) rfl rfl fun ac hs => ?_)
    refine lstep (wpO_out hs none rfl rfl (.inl rfl) rfl rfl fun ac hs => ?_)
    refine lstep (wpO_plain rfl (op_pickF hs none rfl rfl rfl rfl rfl fun ac hs => ?_))
    refine lstep (wpO_plain rfl (op_assign hs none rfl rfl rfl rfl fun ac hs => ?_))
    refine wpList_nil ?_
    refine then_n ?_
    refine wp_ret ?_
    exact bodyPost_ret (res1 rfl (rv_t hs rfl)) hs.defers ⟨(), by rw [← hq, decide_eq_false (fun e => hq3 e.1)], hs.bel rfl, okl0⟩
theorem small_c (am : Option Addr) (cm : Nat) (vs : List Value) (aa : Option Addr) (ca : Nat) (us : List Value) (ks js : BL) (q : Bool) (hq : smallS ks js = q) (w0 : World) (Z : Nat → Prop) (hV : CelV w0 Z (.slice am ks.length cm) ks.length vs) (hY : BysV w0 Z vs ks) (hU : CelV w0 Z (.slice aa js.length ca) js.length us) (hX : BysV w0 Z us js): Calls Try.prog 8 #[.agg #[.slice am ks.length cm, .slice aa js.length ca]] w0 fun e w' => Ret w0 Z (ρ := Unit) (fun r => .bool q) (fun r => []) e w' := by
  have hm1 := celv_max hV
  have hm2 := celv_max hU
  refine enterS (n := 43) (args := [.agg #[.slice am ks.length cm, .slice aa js.length ca]]) (S := [(true, .cel (.slice am ks.length cm) ks.length vs), (true, .bys vs ks), (true, .cel (.slice aa js.length ca) js.length us), (true, .bys us js)]) (Z := Z) Try.func8 rfl rfl (Nat.le_of_ble_eq_true rfl) (sokC hV (sokC hY (sokC hU (sokC hX sok0)))) rfl fun ac hs => ?_
  refine wp_seq ?_
  refine wp_region_lit ?_
  refine lstep (wpO_plain rfl (op_box hs none none (cs := [.slice am ks.length cm, .slice aa js.length ca]) rfl rfl rfl rfl rfl rfl fun g1 ac w hs => ?_))
  refine lstep (wpO_plain rfl (op_assign hs none rfl rfl rfl rfl fun ac hs => ?_))
  refine wpList_nil ?_
  refine then_n ?_
  refine wp_seq ?_
  refine wp_seq ?_
  by_cases hq2 : 110 < ks.length
  · skip
    refine wp_region_lit ?_
    refine lstep (wpO_plain rfl (op_fieldA hs none rfl rfl rfl Try.underlying24 rfl Try.sizeOf22 (by decide) rfl fun ac hs => ?_))
    refine lstep (wpO_plain rfl (op_load hs none 0 (v := .slice am ks.length cm) rfl rfl rfl rfl Try.isAgg22 Try.sizeOf22 rfl rfl fun ac hs => ?_))
    refine lstep (wpO_plain rfl (op_blt hs none (v := .int .i64 ((ks.length : Nat) : Int)) rfl rfl rfl (blt_len Try.underlying22) rfl fun ac hs => ?_))
    refine lstep (wpO_plain rfl (op_bin hs none (v := .bool true) rfl rfl rfl rfl (fun _ => rfl) (fun w => dT hq2 (bin_gtrN (x := ks.length) (y := 110) w)) rfl fun ac hs => ?_))
    refine lstep (wpO_plain rfl (op_move hs none rfl rfl rfl rfl fun ac hs => ?_))
    refine lstep (wpO_out hs none rfl rfl (.inl rfl) rfl rfl fun ac hs => ?_)
    refine lstep (wpO_out hs none rfl rfl (.inl rfl) rfl rfl fun ac hs => ?_)
    refine lstep (wpO_out hs none rfl rfl (.inl rfl) rfl rfl fun ac hs => ?_)
    refine lstep (wpO_out hs none rfl rfl (.inl rfl) rfl rfl fun ac hs => ?_)
    refine lstep (wpO_plain rfl (op_pickT hs none rfl rfl rfl rfl rfl fun ac hs => ?_))
    refine wpList_nil ?_
    refine then_n ?_
    refine wp_cond_true (hs.ev rfl) ?_
    refine wp_seq ?_
    replace hs : St 43 ⟨w0, [], [(true, .cel (.slice am ks.length cm) ks.length vs), (true, .bys vs ks), (true, .cel (.slice aa js.length ca) js.length us), (true, .bys us js)], Z, noX⟩ [(1, true, .pointer (some ⟨g1, 0, none⟩)), (2, true, .bool false)] [(true, g1, 24, [.slice am ks.length cm, .slice aa js.length ca])] ac _ := hs.re ⟨rfl, rfl, trivial⟩
    refine wp_region_lit ?_
    refine lstep (wpO_plain rfl (op_assign hs none rfl rfl rfl rfl fun ac hs => ?_))
    refine wpList_nil ?_
    refine then_n ?_
    refine wp_ret ?_
    refine then_r ?_
    exact bodyPost_ret (res1 rfl (rv_t hs rfl)) hs.defers ⟨(), by rw [← hq, small_len (.inl hq2)], hs.bel rfl, okl0⟩
  · skip
    refine wp_region_lit ?_
    refine lstep (wpO_plain rfl (op_fieldA hs none rfl rfl rfl Try.underlying24 rfl Try.sizeOf22 (by decide) rfl fun ac hs => ?_))
    refine lstep (wpO_plain rfl (op_load hs none 0 (v := .slice am ks.length cm) rfl rfl rfl rfl Try.isAgg22 Try.sizeOf22 rfl rfl fun ac hs => ?_))
    refine lstep (wpO_plain rfl (op_blt hs none (v := .int .i64 ((ks.length : Nat) : Int)) rfl rfl rfl (blt_len Try.underlying22) rfl fun ac hs => ?_))
    refine lstep (wpO_plain rfl (op_bin hs none (v := .bool false) rfl rfl rfl rfl (fun _ => rfl) (fun w => dF hq2 (bin_gtrN (x := ks.length) (y := 110) w)) rfl fun ac hs => ?_))
    refine lstep (wpO_plain rfl (op_move hs none rfl rfl rfl rfl fun ac hs => ?_))
    refine lstep (wpO_in hs rfl rfl rfl (op_fieldA hs none rfl rfl rfl Try.underlying24 rfl Try.sizeOf22 (by decide) rfl fun ac hs => ?_))
    refine lstep (wpO_in hs rfl rfl rfl (op_load hs none 0 (v := .slice aa js.length ca) rfl rfl rfl rfl Try.isAgg22 Try.sizeOf22 rfl rfl fun ac hs => ?_))
    refine lstep (wpO_in hs rfl rfl rfl (op_blt hs none (v := .int .i64 ((js.length : Nat) : Int)) rfl rfl rfl (blt_len Try.underlying22) rfl fun ac hs => ?_))
    refine lstep (wpO_in hs rfl rfl rfl (op_bin hs none (v := .bool (decide (110 < js.length))) rfl rfl rfl rfl (fun _ => rfl) (bin_gtrN (x := js.length) (y := 110)) rfl fun ac hs => ?_))
    refine lstep (wpO_plain rfl (op_pickF hs none rfl rfl rfl rfl rfl fun ac hs => ?_))
    refine wpList_nil ?_
    refine then_n ?_
    refine wp_cond_split (hs.ev rfl) (fun hc => ?_) (fun hc => ?_)
    · skip
      have hp3 := of_decide_eq_true hc
      refine wp_seq ?_
      replace hs : St 43 ⟨w0, [], [(true, .cel (.slice am ks.length cm) ks.length vs), (true, .bys vs ks), (true, .cel (.slice aa js.length ca) js.length us), (true, .bys us js)], Z, noX⟩ [(1, true, .pointer (some ⟨g1, 0, none⟩)), (2, true, .bool false)] [(true, g1, 24, [.slice am ks.length cm, .slice aa js.length ca])] ac _ := hs.re ⟨rfl, rfl, trivial⟩
      refine wp_region_lit ?_
      refine lstep (wpO_plain rfl (op_assign hs none rfl rfl rfl rfl fun ac hs => ?_))
      refine wpList_nil ?_
      refine then_n ?_
      refine wp_ret ?_
      refine then_r ?_
      exact bodyPost_ret (res1 rfl (rv_t hs rfl)) hs.defers ⟨(), by rw [← hq, small_len (.inr hp3)], hs.bel rfl, okl0⟩
    · skip
      have hp4 := of_decide_eq_false hc
      refine wp_skip ?_
      refine then_n ?_
      refine wp_seq ?_
      refine wp_seq ?_
      replace hs : St 43 ⟨w0, [], [(true, .cel (.slice am ks.length cm) ks.length vs), (true, .bys vs ks), (true, .cel (.slice aa js.length ca) js.length us), (true, .bys us js)], Z, noX⟩ [(1, true, .pointer (some ⟨g1, 0, none⟩)), (2, true, .bool false)] [(true, g1, 24, [.slice am ks.length cm, .slice aa js.length ca])] ac _ := hs.re ⟨rfl, rfl, trivial⟩
      refine wp_region_lit ?_
      refine lstep (wpO_plain rfl (op_assign hs none rfl rfl rfl rfl fun ac hs => ?_))
      refine wpList_nil ?_
      refine then_n ?_
      refine wp_block ?_
      refine wp_loop_m (fun μ ac w => ∃ (i : Nat), (ks.length - i) = μ ∧ (i ≤ ks.length) ∧ (allB 600 (ks.take i) = true) ∧ St 43 ⟨w0, [], [(true, .cel (.slice am ks.length cm) ks.length vs), (true, .bys vs ks), (true, .cel (.slice aa js.length ca) js.length us), (true, .bys us js)], Z, noX⟩ [(1, true, .pointer (some ⟨g1, 0, none⟩)), (2, true, .bool false), (3, true, .int .i64 ((i : Nat) : Int))] [(true, g1, 24, [.slice am ks.length cm, .slice aa js.length ca])] ac w) ?_ ?_
      · exact ⟨_, 0, rfl, (by omega), rfl, (hs.re (fs' := [(1, true, .pointer (some ⟨g1, 0, none⟩)), (2, true, .bool false), (3, true, .int .i64 ((0 : Nat) : Int))]) ⟨rfl, rfl, rfl, trivial⟩)⟩
      intro μ ac w ⟨i, hμ, hi, hti, hs⟩
      refine wp_seq ?_
      refine wp_seq ?_
      refine wp_region_lit ?_
      refine lstep (wpO_plain rfl (op_move hs none rfl rfl rfl rfl fun ac hs => ?_))
      refine lstep (wpO_plain rfl (op_fieldA hs none rfl rfl rfl Try.underlying24 rfl Try.sizeOf22 (by decide) rfl fun ac hs => ?_))
      refine lstep (wpO_plain rfl (op_load hs none 0 (v := .slice am ks.length cm) rfl rfl rfl rfl Try.isAgg22 Try.sizeOf22 rfl rfl fun ac hs => ?_))
      refine lstep (wpO_plain rfl (op_blt hs none (v := .int .i64 ((ks.length : Nat) : Int)) rfl rfl rfl (blt_len Try.underlying22) rfl fun ac hs => ?_))
      refine lstep (wpO_plain rfl (op_bin hs none (v := .bool (decide (i < ks.length))) rfl rfl rfl rfl (fun _ => rfl) (bin_lssN (x := i) (y := ks.length)) rfl fun ac hs => ?_))
      refine wpList_nil ?_
      refine then_n ?_
      refine wp_cond_split (hs.ev rfl) (fun hc => ?_) (fun hc => ?_)
      · skip
        have hp5 := of_decide_eq_true hc
        have hlt := of_decide_eq_true hc
        obtain ⟨y, hy⟩ : ∃ q, ks[i]? = some q := ⟨_, List.getElem?_eq_getElem hlt⟩
        obtain ⟨ay, cy, hvy⟩ := bysv_at (hs.all (k := 1) rfl rfl) hy
        refine wp_skip ?_
        refine then_n ?_
        refine wp_seq ?_
        refine wp_block ?_
        refine wp_seq ?_
        refine wp_region_lit ?_
        refine lstep (wpO_plain rfl (op_fieldA hs none rfl rfl rfl Try.underlying24 rfl Try.sizeOf22 (by decide) rfl fun ac hs => ?_))
        refine lstep (wpO_plain rfl (op_load hs none 0 (v := .slice am ks.length cm) rfl rfl rfl rfl Try.isAgg22 Try.sizeOf22 rfl rfl fun ac hs => ?_))
        refine lstep (wpO_plain rfl (op_move hs none rfl rfl rfl rfl fun ac hs => ?_))
        refine lstep (wpO_plain rfl (op_idxC hs none 0 (j := i) rfl rfl rfl rfl rfl Try.underlying22 Try.sizeOf34 (show i < ks.length by omega) (off := i) (by omega) rfl fun ac hs => ?_))
        refine lstep (wpO_plain rfl (op_loadC hs none 0 (u := .slice ay y.length cy) rfl rfl rfl rfl Try.isAgg34 Try.sizeOf34 (by decide) hvy rfl fun ac hs => ?_))
        refine lstep (wpO_plain rfl (op_blt hs none (v := .int .i64 ((y.length : Nat) : Int)) rfl rfl rfl (blt_len Try.underlying34) rfl fun ac hs => ?_))
        refine lstep (wpO_plain rfl (op_bin hs none (v := .bool (decide (600 < y.length))) rfl rfl rfl rfl (fun _ => rfl) (bin_gtrN (x := y.length) (y := 600)) rfl fun ac hs => ?_))
        refine wpList_nil ?_
        refine then_n ?_
        refine wp_cond_split (hs.ev rfl) (fun hc => ?_) (fun hc => ?_)
        · skip
          have hp6 := of_decide_eq_true hc
          refine wp_seq ?_
          replace hs : St 43 ⟨w0, [], [(true, .cel (.slice am ks.length cm) ks.length vs), (true, .bys vs ks), (true, .cel (.slice aa js.length ca) js.length us), (true, .bys us js)], Z, noX⟩ [(1, true, .pointer (some ⟨g1, 0, none⟩)), (2, true, .bool false), (3, true, .int .i64 ((i : Nat) : Int))] [(true, g1, 24, [.slice am ks.length cm, .slice aa js.length ca])] ac _ := hs.re ⟨rfl, rfl, rfl, trivial⟩
          refine wp_region_lit ?_
          refine lstep (wpO_plain rfl (op_assign hs none rfl rfl rfl rfl fun ac hs => ?_))
          refine wpList_nil ?_
          refine then_n ?_
          refine wp_ret ?_
          refine blk_r ?_
          refine then_r ?_
          refine then_r ?_
          refine blk_r ?_
          refine then_r ?_
          exact bodyPost_ret (res1 rfl (rv_t hs rfl)) hs.defers ⟨(), by rw [← hq, small_no1 (allB_no hy hp6)], hs.bel rfl, okl0⟩
        · skip
          have hp7 := of_decide_eq_false hc
          refine wp_skip ?_
          refine blk_n ?_
          refine then_n ?_
          replace hs : St 43 ⟨w0, [], [(true, .cel (.slice am ks.length cm) ks.length vs), (true, .bys vs ks), (true, .cel (.slice aa js.length ca) js.length us), (true, .bys us js)], Z, noX⟩ [(1, true, .pointer (some ⟨g1, 0, none⟩)), (2, true, .bool false), (3, true, .int .i64 ((i : Nat) : Int))] [(true, g1, 24, [.slice am ks.length cm, .slice aa js.length ca])] ac _ := hs.re ⟨rfl, rfl, rfl, trivial⟩
          refine wp_region_lit ?_
          refine lstep (wpO_plain rfl (op_move hs none rfl rfl rfl rfl fun ac hs => ?_))
          refine lstep (wpO_plain rfl (op_bin hs none (v := .int .i64 ((i + 1 : Nat) : Int)) rfl rfl rfl rfl (fun _ => rfl) (bin_addN (x := i) (y := 1) (z := i + 1) rfl (show i + 1 < 9223372036854775808 by omega)) rfl fun ac hs => ?_))
          refine lstep (wpO_plain rfl (op_assign hs none rfl rfl rfl rfl fun ac hs => ?_))
          refine wpList_nil ?_
          refine then_n ?_
          exact ⟨_, ⟨(i + 1), rfl, (by omega), (allB_go hy hp7 hti), (hs.re (fs' := [(1, true, .pointer (some ⟨g1, 0, none⟩)), (2, true, .bool false), (3, true, .int .i64 (((i + 1) : Nat) : Int))]) ⟨rfl, rfl, rfl, trivial⟩)⟩, (by omega)⟩
      · skip
        have hp8 := of_decide_eq_false hc
        refine wp_exit ?_
        refine then_e ?_
        refine then_e ?_
        refine blk_e ?_
        refine then_n ?_
        refine wp_seq ?_
        refine wp_seq ?_
        refine wp_region_lit ?_
        refine lstep (wpO_plain rfl (op_assign hs none rfl rfl rfl rfl fun ac hs => ?_))
        refine wpList_nil ?_
        refine then_n ?_
        refine wp_block ?_
        refine wp_loop_m (fun μ ac w => ∃ (i : Nat), (js.length - i) = μ ∧ (i ≤ js.length) ∧ (allB 600 (js.take i) = true) ∧ (allB 600 ks = true) ∧ St 43 ⟨w0, [], [(true, .cel (.slice am ks.length cm) ks.length vs), (true, .bys vs ks), (true, .cel (.slice aa js.length ca) js.length us), (true, .bys us js)], Z, noX⟩ [(1, true, .pointer (some ⟨g1, 0, none⟩)), (2, true, .bool false), (4, true, .int .i64 ((i : Nat) : Int))] [(true, g1, 24, [.slice am ks.length cm, .slice aa js.length ca])] ac w) ?_ ?_
        · exact ⟨_, 0, rfl, (by omega), rfl, (allB_end hp8 hti), (hs.re (fs' := [(1, true, .pointer (some ⟨g1, 0, none⟩)), (2, true, .bool false), (4, true, .int .i64 ((0 : Nat) : Int))]) ⟨rfl, rfl, rfl, trivial⟩)⟩
        intro μ ac w ⟨i, hμ, hi, hti, hall, hs⟩
        refine wp_seq ?_
        refine wp_seq ?_
        refine wp_region_lit ?_
        refine lstep (wpO_plain rfl (op_move hs none rfl rfl rfl rfl fun ac hs => ?_))
        refine lstep (wpO_plain rfl (op_fieldA hs none rfl rfl rfl Try.underlying24 rfl Try.sizeOf22 (by decide) rfl fun ac hs => ?_))
        refine lstep (wpO_plain rfl (op_load hs none 0 (v := .slice aa js.length ca) rfl rfl rfl rfl Try.isAgg22 Try.sizeOf22 rfl rfl fun ac hs => ?_))
        refine lstep (wpO_plain rfl (op_blt hs none (v := .int .i64 ((js.length : Nat) : Int)) rfl rfl rfl (blt_len Try.underlying22) rfl fun ac hs => ?_))
        refine lstep (wpO_plain rfl (op_bin hs none (v := .bool (decide (i < js.length))) rfl rfl rfl rfl (fun _ => rfl) (bin_lssN (x := i) (y := js.length)) rfl fun ac hs => ?_))
        refine wpList_nil ?_
        refine then_n ?_
        refine wp_cond_split (hs.ev rfl) (fun hc => ?_) (fun hc => ?_)
        · skip
          have hp9 := of_decide_eq_true hc
          have hlt := of_decide_eq_true hc
          obtain ⟨y, hy⟩ : ∃ q, js[i]? = some q := ⟨_, List.getElem?_eq_getElem hlt⟩
          obtain ⟨ay, cy, hvy⟩ := bysv_at (hs.all (k := 3) rfl rfl) hy
          refine wp_skip ?_
          refine then_n ?_
          refine wp_seq ?_
          refine wp_block ?_
          refine wp_seq ?_
          refine wp_region_lit ?_
          refine lstep (wpO_plain rfl (op_fieldA hs none rfl rfl rfl Try.underlying24 rfl Try.sizeOf22 (by decide) rfl fun ac hs => ?_))
          refine lstep (wpO_plain rfl (op_load hs none 0 (v := .slice aa js.length ca) rfl rfl rfl rfl Try.isAgg22 Try.sizeOf22 rfl rfl fun ac hs => ?_))
          refine lstep (wpO_plain rfl (op_move hs none rfl rfl rfl rfl fun ac hs => ?_))
          refine lstep (wpO_plain rfl (op_idxC hs none 2 (j := i) rfl rfl rfl rfl rfl Try.underlying22 Try.sizeOf34 (show i < js.length by omega) (off := i) (by omega) rfl fun ac hs => ?_))
          refine lstep (wpO_plain rfl (op_loadC hs none 2 (u := .slice ay y.length cy) rfl rfl rfl rfl Try.isAgg34 Try.sizeOf34 (by decide) hvy rfl fun ac hs => ?_))
          refine lstep (wpO_plain rfl (op_blt hs none (v := .int .i64 ((y.length : Nat) : Int)) rfl rfl rfl (blt_len Try.underlying34) rfl fun ac hs => ?_))
          refine lstep (wpO_plain rfl (op_bin hs none (v := .bool (decide (600 < y.length))) rfl rfl rfl rfl (fun _ => rfl) (bin_gtrN (x := y.length) (y := 600)) rfl fun ac hs => ?_))
          refine wpList_nil ?_
          refine then_n ?_
          refine wp_cond_split (hs.ev rfl) (fun hc => ?_) (fun hc => ?_)
          · skip
            have hp10 := of_decide_eq_true hc
            refine wp_seq ?_
            replace hs : St 43 ⟨w0, [], [(true, .cel (.slice am ks.length cm) ks.length vs), (true, .bys vs ks), (true, .cel (.slice aa js.length ca) js.length us), (true, .bys us js)], Z, noX⟩ [(1, true, .pointer (some ⟨g1, 0, none⟩)), (2, true, .bool false), (4, true, .int .i64 ((i : Nat) : Int))] [(true, g1, 24, [.slice am ks.length cm, .slice aa js.length ca])] ac _ := hs.re ⟨rfl, rfl, rfl, trivial⟩
            refine wp_region_lit ?_
            refine lstep (wpO_plain rfl (op_assign hs none rfl rfl rfl rfl fun ac hs => ?_))
            refine wpList_nil ?_
            refine then_n ?_
            refine wp_ret ?_
            refine blk_r ?_
            refine then_r ?_
            refine then_r ?_
            refine blk_r ?_
            refine then_r ?_
            exact bodyPost_ret (res1 rfl (rv_t hs rfl)) hs.defers ⟨(), by rw [← hq, small_no2 (allB_no hy hp10)], hs.bel rfl, okl0⟩
          · skip
            have hp11 := of_decide_eq_false hc
            refine wp_skip ?_
            refine blk_n ?_
            refine then_n ?_
            replace hs : St 43 ⟨w0, [], [(true, .cel (.slice am ks.length cm) ks.length vs), (true, .bys vs ks), (true, .cel (.slice aa js.length ca) js.length us), (true, .bys us js)], Z, noX⟩ [(1, true, .pointer (some ⟨g1, 0, none⟩)), (2, true, .bool false), (4, true, .int .i64 ((i : Nat) : Int))] [(true, g1, 24, [.slice am ks.length cm, .slice aa js.length ca])] ac _ := hs.re ⟨rfl, rfl, rfl, trivial⟩
            refine wp_region_lit ?_
            refine lstep (wpO_plain rfl (op_move hs none rfl rfl rfl rfl fun ac hs => ?_))
            refine lstep (wpO_plain rfl (op_bin hs none (v := .int .i64 ((i + 1 : Nat) : Int)) rfl rfl rfl rfl (fun _ => rfl) (bin_addN (x := i) (y := 1) (z := i + 1) rfl (show i + 1 < 9223372036854775808 by omega)) rfl fun ac hs => ?_))
            refine lstep (wpO_plain rfl (op_assign hs none rfl rfl rfl rfl fun ac hs => ?_))
            refine wpList_nil ?_
            refine then_n ?_
            exact ⟨_, ⟨(i + 1), rfl, (by omega), (allB_go hy hp11 hti), hall, (hs.re (fs' := [(1, true, .pointer (some ⟨g1, 0, none⟩)), (2, true, .bool false), (4, true, .int .i64 (((i + 1) : Nat) : Int))]) ⟨rfl, rfl, rfl, trivial⟩)⟩, (by omega)⟩
        · skip
          have hp12 := of_decide_eq_false hc
          refine wp_exit ?_
          refine then_e ?_
          refine then_e ?_
          refine blk_e ?_
          refine then_n ?_
          refine wp_seq ?_
          refine wp_region_lit ?_
          refine lstep (wpO_plain rfl (op_assign hs none rfl rfl rfl rfl fun ac hs => ?_))
          refine wpList_nil ?_
          refine then_n ?_
          refine wp_ret ?_
          exact bodyPost_ret (res1 rfl (rv_t hs rfl)) hs.defers ⟨(), by rw [← hq, small_yes hq2 hp4 hall (allB_end hp12 hti)], hs.bel rfl, okl0⟩
theorem times_c (am : Option Addr) (cm : Nat) (vs : List Value) (aa : Option Addr) (ca : Nat) (us : List Value) (ks js : BL) (al : Option Addr) (cl : Nat) (l : List UInt8) (k1 j1 : BL) (q : Bool) (ok : OkN 1000 ks) (oj : OkN 1000 js) (hp : timesL l ks js = (k1, j1, q)) (w0 : World) (Z X : Nat → Prop) (hm : Mem ⟨w0, [], [(true, .cel (.slice am ks.length cm) ks.length vs), (true, .bys vs ks), (true, .cel (.slice aa js.length ca) js.length us), (true, .bys us js), (true, .cel (.slice al l.length cl) l.length (bcs l))], Z, X⟩ [] w0) : Calls Try.prog 15 #[.agg #[.slice am ks.length cm, .slice aa js.length ca], .slice al l.length cl] w0 fun e w' => PostX w0 Z X (ρ := M2) (fun r => .tuple #[.agg #[.slice r.a k1.length r.c, .slice r.b j1.length r.d], .bool q]) (fun r => []) (fun r => [(true, .cel (.slice am ks.length cm) ks.length vs), (true, .bys vs ks), (true, .cel (.slice aa js.length ca) js.length us), (true, .bys us js), (true, .cel (.slice al l.length cl) l.length (bcs l)), (true, .cel (.slice r.a k1.length r.c) k1.length r.vs), (true, .bys r.vs k1), (true, .cel (.slice r.b j1.length r.d) j1.length r.us), (true, .bys r.us j1)]) e w' := by
  refine enterX (n := 29) (args := [.agg #[.slice am ks.length cm, .slice aa js.length ca], .slice al l.length cl]) Try.func15 rfl rfl (Nat.le_of_ble_eq_true rfl) hm fun ac hs => ?_
  have hm1 := celv_max (hs.celT (k := 4) rfl)
  refine wp_seq ?_
  refine wp_region_lit ?_
  refine lstep (wpO_plain rfl (op_box hs none none (cs := [.slice am ks.length cm, .slice aa js.length ca]) rfl rfl rfl rfl rfl rfl fun g1 ac w hs => ?_))
  refine lstep (wpO_plain rfl (op_alloc hs none none (cs := [.slice none 0 0, .slice none 0 0]) rfl rfl Try.zeroValue24 (by kernel_rfl) rfl rfl fun g2 ac w hs => ?_))
  refine lstep (wpO_plain rfl (op_assign hs none rfl rfl rfl rfl fun ac hs => ?_))
  refine wpList_nil ?_
  refine then_n ?_
  refine wp_seq ?_
  refine wp_seq ?_
  refine wp_region_lit ?_
  refine lstep (wpO_plain rfl (op_assign hs none rfl rfl rfl rfl fun ac hs => ?_))
  refine wpList_nil ?_
  refine then_n ?_
  refine wp_block ?_
  replace hs := hs.dup 0 rfl rfl
  replace hs := hs.dup 1 rfl rfl
  replace hs := hs.dup 2 rfl rfl
  replace hs := hs.dup 3 rfl rfl
  refine wp_loop_m (fun μ ac w => ∃ (i : Nat) (a : Option Addr) (c : Nat) (v : List Value) (b : Option Addr) (d : Nat) (u : List Value) (kk : BL) (jj : BL), (l.length - i) = μ ∧ (i ≤ l.length) ∧ (OkN 1000 kk) ∧ (OkN 1000 jj) ∧ (timesL l ks js = timesL (l.drop i) kk jj) ∧ St 29 ⟨w0, [], [(true, .cel (.slice am ks.length cm) ks.length vs), (true, .bys vs ks), (true, .cel (.slice aa js.length ca) js.length us), (true, .bys us js), (true, .cel (.slice al l.length cl) l.length (bcs l)), (true, .cel (.slice a kk.length c) kk.length v), (true, .bys v kk), (true, .cel (.slice b jj.length d) jj.length u), (true, .bys u jj)], Z, X⟩ [(0, true, .agg #[.slice am ks.length cm, .slice aa js.length ca]), (1, true, .slice al l.length cl), (2, true, .pointer (some ⟨g1, 0, none⟩)), (4, true, .pointer (some ⟨g2, 0, none⟩)), (5, true, .bool false), (6, true, .int .i64 ((i : Nat) : Int))] [(true, g1, 24, [.slice a kk.length c, .slice b jj.length d]), (true, g2, 24, [.slice none 0 0, .slice none 0 0])] ac w) ?_ ?_
  · exact ⟨_, 0, am, cm, vs, aa, ca, us, ks, js, rfl, (by omega), ok, oj, rfl, (hs.re (fs' := [(0, true, .agg #[.slice am ks.length cm, .slice aa js.length ca]), (1, true, .slice al l.length cl), (2, true, .pointer (some ⟨g1, 0, none⟩)), (4, true, .pointer (some ⟨g2, 0, none⟩)), (5, true, .bool false), (6, true, .int .i64 ((0 : Nat) : Int))]) ⟨rfl, rfl, rfl, rfl, rfl, rfl, trivial⟩)⟩
  intro μ ac w ⟨i, a, c, v, b, d, u, kk, jj, hμ, hi, okk, ojj, hrel, hs⟩
  refine wp_seq ?_
  refine wp_seq ?_
  refine wp_region_lit ?_
  refine lstep (wpO_plain rfl (op_move hs none rfl rfl rfl rfl fun ac hs => ?_))
  refine lstep (wpO_plain rfl (op_move hs none rfl rfl rfl rfl fun ac hs => ?_))
  refine lstep (wpO_plain rfl (op_blt hs none (v := .int .i64 ((l.length : Nat) : Int)) rfl rfl rfl (blt_len Try.underlying34) rfl fun ac hs => ?_))
  refine lstep (wpO_plain rfl (op_bin hs none (v := .bool (decide (i < l.length))) rfl rfl rfl rfl (fun _ => rfl) (bin_lssN (x := i) (y := l.length)) rfl fun ac hs => ?_))
  refine wpList_nil ?_
  refine then_n ?_
  refine wp_cond_split (hs.ev rfl) (fun hc => ?_) (fun hc => ?_)
  · skip
    have hp3 := of_decide_eq_true hc
    have hlt := of_decide_eq_true hc
    refine wp_skip ?_
    refine then_n ?_
    refine wp_seq ?_
    refine wp_block ?_
    refine wp_seq ?_
    replace hs : St 29 ⟨w0, [], [(true, .cel (.slice am ks.length cm) ks.length vs), (true, .bys vs ks), (true, .cel (.slice aa js.length ca) js.length us), (true, .bys us js), (true, .cel (.slice al l.length cl) l.length (bcs l)), (true, .cel (.slice a kk.length c) kk.length v), (true, .bys v kk), (true, .cel (.slice b jj.length d) jj.length u), (true, .bys u jj)], Z, X⟩ [(0, true, .agg #[.slice am ks.length cm, .slice aa js.length ca]), (1, true, .slice al l.length cl), (2, true, .pointer (some ⟨g1, 0, none⟩)), (4, true, .pointer (some ⟨g2, 0, none⟩)), (5, true, .bool false), (6, true, .int .i64 ((i : Nat) : Int))] [(true, g1, 24, [.slice a kk.length c, .slice b jj.length d]), (true, g2, 24, [.slice none 0 0, .slice none 0 0])] ac _ := hs.re ⟨rfl, rfl, rfl, rfl, rfl, rfl, trivial⟩
    have l4 := byt_lt l i
    obtain ⟨ks5, js6, e7, hks5⟩ : ∃ z0 z1 z2, doL (byt l i) kk jj = (z0, z1, z2) := ⟨_, _, _, rfl⟩
    refine region_inv [([], [2, 3, 5, 6, 7, 8, 10, 11]), ([], [2, 3, 5, 6, 7, 8, 10, 11]), ([0, 1], [3, 5, 6, 7, 8, 10, 11]), ([0, 1, 2], [5, 6, 7, 8, 10, 11]), ([], [5, 6, 7, 8, 10, 11]), ([0, 1, 2, 3, 4], [6, 7, 8, 10, 11]), ([0, 1, 2, 3, 4, 5], [7, 8, 10, 11]), ([0, 1, 2, 3, 4, 5, 6], [10, 11]), ([0, 1, 2, 3, 4, 5, 6], [11]), ([], [10, 11]), ([0, 1, 2, 3, 4, 5, 6, 7, 9], [11]), ([0, 1, 2, 3, 4, 5, 6, 7, 8, 9, 10], [])] (fun L ac w => ∃ (g15 : Nat) (ad8 : Option Addr) (cp9 : Nat) (vs10 : List Value) (ad11 : Option Addr) (cp12 : Nat) (us13 : List Value) (G14 : Nat → Prop), St 29 ⟨w0, [], [(true, .cel (.slice am ks.length cm) ks.length vs), (true, .bys vs ks), (true, .cel (.slice aa js.length ca) js.length us), (true, .bys us js), (true, .cel (.slice al l.length cl) l.length (bcs l)), (true, .cel (.slice a kk.length c) kk.length v), (true, .bys v kk), (true, .cel (.slice b jj.length d) jj.length u), (true, .bys u jj), (L 5, .own (.slice ad8 ks5.length cp9) 34 1 ks5.length vs10), (L 5, .own (.slice ad11 js6.length cp12) 34 1 js6.length us13), (L 5, .bysO G14 (vs10 ++ us13 ++ ([])) (ks5 ++ js6 ++ ([])))], Z, X⟩ [(16, L 0, .slice al l.length cl), (17, L 1, .int .i64 ((i : Nat) : Int)), (18, L 2, vidx (.slice al l.length cl) i), (19, L 3, .int .u8 ((byt l i : Nat) : Int)), (20, L 4, .agg #[.slice a kk.length c, .slice b jj.length d]), (21, L 5, .tuple #[.agg #[.slice ad8 ks5.length cp9, .slice ad11 js6.length cp12], .int .i64 ((e7 : Nat) : Int)]), (15, L 6, cond (L 6) (.tuple #[.agg #[.slice ad8 ks5.length cp9, .slice ad11 js6.length cp12], .int .i64 ((e7 : Nat) : Int)]) undef), (22, L 7, cond (L 7) (.agg #[.slice ad8 ks5.length cp9, .slice ad11 js6.length cp12]) undef), (23, L 8, .int .i64 ((e7 : Nat) : Int)), (7, L 9, .pointer (some ⟨g15, 0, none⟩)), (8, L 11, .int .i64 ((e7 : Nat) : Int)), (0, true, .agg #[.slice am ks.length cm, .slice aa js.length ca]), (1, true, .slice al l.length cl), (2, true, .pointer (some ⟨g1, 0, none⟩)), (4, true, .pointer (some ⟨g2, 0, none⟩)), (5, true, .bool false), (6, true, .int .i64 ((i : Nat) : Int))] [(true, g1, 24, [.slice a kk.length c, .slice b jj.length d]), (true, g2, 24, [.slice none 0 0, .slice none 0 0]), (L 9, g15, 24, (cond (L 10) [.slice ad8 ks5.length cp9, .slice ad11 js6.length cp12] [.slice none 0 0, .slice none 0 0]))] ac w) (by kernel_rfl) (by kernel_rfl) ?_ ?_ ?_
    · exact ⟨0, none, 0, [], none, 0, [], noX, hs.drew.skip.skip.skip.skip.skip.skip.skip.skip.skip.skip.skip.pad.padS.padS.padS⟩
    · refine ⟨?_, ?_, ?_, ?_, ?_, ?_, ?_, ?_, ?_, ?_, ?_, ?_, trivial⟩
      · intro L ac w hJ
        obtain ⟨g15, ad8, cp9, vs10, ad11, cp12, us13, G14, hs⟩ := hJ
        refine wpO_plain rfl (op_move hs (some 0) rfl rfl rfl rfl fun ac hs => ?_)
        exact ⟨g15, ad8, cp9, vs10, ad11, cp12, us13, G14, hs⟩
      · intro L ac w hJ
        obtain ⟨g15, ad8, cp9, vs10, ad11, cp12, us13, G14, hs⟩ := hJ
        refine wpO_plain rfl (op_move hs (some 1) rfl rfl rfl rfl fun ac hs => ?_)
        exact ⟨g15, ad8, cp9, vs10, ad11, cp12, us13, G14, hs⟩
      · intro L ac w hJ
        obtain ⟨g15, ad8, cp9, vs10, ad11, cp12, us13, G14, hs⟩ := hJ
        refine wpO_plain rfl (op_idxC hs (some 2) 4 (j := i) rfl rfl rfl rfl rfl Try.underlying34 Try.sizeOf5 (show i < l.length by omega) (off := i) (by omega) rfl fun ac hs => ?_)
        exact ⟨g15, ad8, cp9, vs10, ad11, cp12, us13, G14, hs⟩
      · intro L ac w hJ
        obtain ⟨g15, ad8, cp9, vs10, ad11, cp12, us13, G14, hs⟩ := hJ
        refine wpO_plain rfl (op_loadC hs (some 3) 4 (u := .int .u8 ((byt l i : Nat) : Int)) rfl rfl rfl rfl Try.isAgg5 Try.sizeOf5 (by decide) (bcs_get (show i < l.length by omega)) rfl fun ac hs => ?_)
        exact ⟨g15, ad8, cp9, vs10, ad11, cp12, us13, G14, hs⟩
      · intro L ac w hJ
        obtain ⟨g15, ad8, cp9, vs10, ad11, cp12, us13, G14, hs⟩ := hJ
        refine wpO_plain rfl (op_load hs (some 4) 0 (v := .agg #[.slice a kk.length c, .slice b jj.length d]) rfl rfl rfl rfl Try.isAgg24 Try.sizeOf24 rfl rfl fun ac hs => ?_)
        exact ⟨g15, ad8, cp9, vs10, ad11, cp12, us13, G14, hs⟩
      · intro L ac w hJ
        obtain ⟨g15, ad8, cp9, vs10, ad11, cp12, us13, G14, hs⟩ := hJ
        refine wpO_plain rfl (op_callX (F := 11) (ρ := M2) hs (some 5) (some 9) [] [5, 6, 7, 8] (v := fun r => .tuple #[.agg #[.slice r.a ks5.length r.c, .slice r.b js6.length r.d], .int .i64 ((e7 : Nat) : Int)]) (S1 := [(true, .cel (.slice a kk.length c) kk.length v), (true, .bys v kk), (true, .cel (.slice b jj.length d) jj.length u), (true, .bys u jj)]) (bs1 := []) (E := fun r => [(true, .cel (.slice a kk.length c) kk.length v), (true, .bys v kk), (true, .cel (.slice b jj.length d) jj.length u), (true, .bys u jj), (true, .own (.slice r.a ks5.length r.c) 34 1 ks5.length r.vs), (true, .own (.slice r.b js6.length r.d) 34 1 js6.length r.us), (true, .bysO r.G (r.vs ++ r.us ++ ([])) (ks5 ++ js6 ++ ([])))]) (E1 := fun r => [(true, .cel (.slice a kk.length c) kk.length v), (true, .bys v kk), (true, .cel (.slice b jj.length d) jj.length u), (true, .bys u jj)]) (E2 := fun r => [.own (.slice r.a ks5.length r.c) 34 1 ks5.length r.vs, .own (.slice r.b js6.length r.d) 34 1 js6.length r.us, .bysO r.G (r.vs ++ r.us ++ ([])) (ks5 ++ js6 ++ ([]))]) (bfA := fun r => []) (bf := fun r => []) (bf2 := fun r => []) rfl rfl rfl rfl rfl (Try.call11 _) rfl rfl (by decide) (by decide) (fun Z X hm => do_c a c v b d u kk jj (byt l i) ks5 js6 e7 okk ojj hks5 _ _ _ hm) (fun _ => rfl) (fun _ => rfl) (fun _ => rfl) (fun _ => rfl) (fun _ => rfl) rfl fun ⟨ad8, cp9, vs10, ad11, cp12, us13, G14⟩ ac w hs => ?_)
        exact ⟨g15, ad8, cp9, vs10, ad11, cp12, us13, G14, hs⟩
      · intro L ac w hJ
        obtain ⟨g15, ad8, cp9, vs10, ad11, cp12, us13, G14, hs⟩ := hJ
        refine wpO_plain rfl (op_move hs (some 6) rfl rfl rfl rfl fun ac hs => ?_)
        exact ⟨g15, ad8, cp9, vs10, ad11, cp12, us13, G14, hs⟩
      · intro L ac w hJ
        obtain ⟨g15, ad8, cp9, vs10, ad11, cp12, us13, G14, hs⟩ := hJ
        refine wpO_plain rfl (op_extract hs (some 7) rfl rfl rfl rfl rfl fun ac hs => ?_)
        exact ⟨g15, ad8, cp9, vs10, ad11, cp12, us13, G14, hs⟩
      · intro L ac w hJ
        obtain ⟨g15, ad8, cp9, vs10, ad11, cp12, us13, G14, hs⟩ := hJ
        refine wpO_plain rfl (op_extract hs (some 8) rfl rfl rfl rfl rfl fun ac hs => ?_)
        exact ⟨g15, ad8, cp9, vs10, ad11, cp12, us13, G14, hs⟩
      · intro L ac w hJ
        obtain ⟨g15, ad8, cp9, vs10, ad11, cp12, us13, G14, hs⟩ := hJ
        refine wpO_plain rfl (op_alloc hs (some 9) (some 2) (cs := [.slice none 0 0, .slice none 0 0]) rfl rfl Try.zeroValue24 (by kernel_rfl) rfl rfl fun g15 ac w hs => ?_)
        exact ⟨g15, ad8, cp9, vs10, ad11, cp12, us13, G14, hs⟩
      · intro L ac w hJ
        obtain ⟨g15, ad8, cp9, vs10, ad11, cp12, us13, G14, hs⟩ := hJ
        refine wpO_plain rfl (op_store hs 2 (vs := [.slice ad8 ks5.length cp9, .slice ad11 js6.length cp12]) rfl rfl rfl rfl rfl Try.sizeOf24 rfl rfl rfl rfl rfl fun w hs => ?_)
        exact ⟨g15, ad8, cp9, vs10, ad11, cp12, us13, G14, hs⟩
      · intro L ac w hJ
        obtain ⟨g15, ad8, cp9, vs10, ad11, cp12, us13, G14, hs⟩ := hJ
        refine wpO_plain rfl (op_assign hs (some 10) rfl rfl rfl rfl fun ac hs => ?_)
        exact ⟨g15, ad8, cp9, vs10, ad11, cp12, us13, G14, hs⟩
    intro ac w hJ
    obtain ⟨g15, ad8, cp9, vs10, ad11, cp12, us13, G14, hs⟩ := hJ
    replace hs : St 29 ⟨w0, [], [(true, .cel (.slice am ks.length cm) ks.length vs), (true, .bys vs ks), (true, .cel (.slice aa js.length ca) js.length us), (true, .bys us js), (true, .cel (.slice al l.length cl) l.length (bcs l)), (true, .cel (.slice a kk.length c) kk.length v), (true, .bys v kk), (true, .cel (.slice b jj.length d) jj.length u), (true, .bys u jj), (true, .own (.slice ad8 ks5.length cp9) 34 1 ks5.length vs10), (true, .own (.slice ad11 js6.length cp12) 34 1 js6.length us13), (true, .bysO G14 (vs10 ++ us13 ++ ([])) (ks5 ++ js6 ++ ([])))], Z, X⟩ [(16, true, .slice al l.length cl), (17, true, .int .i64 ((i : Nat) : Int)), (18, true, vidx (.slice al l.length cl) i), (19, true, .int .u8 ((byt l i : Nat) : Int)), (20, true, .agg #[.slice a kk.length c, .slice b jj.length d]), (21, true, .tuple #[.agg #[.slice ad8 ks5.length cp9, .slice ad11 js6.length cp12], .int .i64 ((e7 : Nat) : Int)]), (15, true, .tuple #[.agg #[.slice ad8 ks5.length cp9, .slice ad11 js6.length cp12], .int .i64 ((e7 : Nat) : Int)]), (22, true, .agg #[.slice ad8 ks5.length cp9, .slice ad11 js6.length cp12]), (23, true, .int .i64 ((e7 : Nat) : Int)), (7, true, .pointer (some ⟨g15, 0, none⟩)), (8, true, .int .i64 ((e7 : Nat) : Int)), (0, true, .agg #[.slice am ks.length cm, .slice aa js.length ca]), (1, true, .slice al l.length cl), (2, true, .pointer (some ⟨g1, 0, none⟩)), (4, true, .pointer (some ⟨g2, 0, none⟩)), (5, true, .bool false), (6, true, .int .i64 ((i : Nat) : Int))] [(true, g1, 24, [.slice a kk.length c, .slice b jj.length d]), (true, g2, 24, [.slice none 0 0, .slice none 0 0]), (true, g15, 24, [.slice ad8 ks5.length cp9, .slice ad11 js6.length cp12])] ac w := hs
    replace hs : St 29 ⟨w0, [], [(true, .cel (.slice am ks.length cm) ks.length vs), (true, .bys vs ks), (true, .cel (.slice aa js.length ca) js.length us), (true, .bys us js), (true, .cel (.slice al l.length cl) l.length (bcs l)), (true, .cel (.slice a kk.length c) kk.length v), (true, .bys v kk), (true, .cel (.slice b jj.length d) jj.length u), (true, .bys u jj), (true, .own (.slice ad8 ks5.length cp9) 34 1 ks5.length vs10), (true, .own (.slice ad11 js6.length cp12) 34 1 js6.length us13), (true, .bysO G14 (vs10 ++ us13 ++ ([])) (ks5 ++ js6 ++ ([])))], Z, X⟩ [(0, true, .agg #[.slice am ks.length cm, .slice aa js.length ca]), (1, true, .slice al l.length cl), (2, true, .pointer (some ⟨g1, 0, none⟩)), (4, true, .pointer (some ⟨g2, 0, none⟩)), (5, true, .bool false), (6, true, .int .i64 ((i : Nat) : Int)), (16, true, .slice al l.length cl), (17, true, .int .i64 ((i : Nat) : Int)), (18, true, vidx (.slice al l.length cl) i), (19, true, .int .u8 ((byt l i : Nat) : Int)), (20, true, .agg #[.slice a kk.length c, .slice b jj.length d]), (21, true, .tuple #[.agg #[.slice ad8 ks5.length cp9, .slice ad11 js6.length cp12], .int .i64 ((e7 : Nat) : Int)]), (15, true, .tuple #[.agg #[.slice ad8 ks5.length cp9, .slice ad11 js6.length cp12], .int .i64 ((e7 : Nat) : Int)]), (22, true, .agg #[.slice ad8 ks5.length cp9, .slice ad11 js6.length cp12]), (23, true, .int .i64 ((e7 : Nat) : Int)), (7, true, .pointer (some ⟨g15, 0, none⟩)), (8, true, .int .i64 ((e7 : Nat) : Int))] [(true, g1, 24, [.slice a kk.length c, .slice b jj.length d]), (true, g2, 24, [.slice none 0 0, .slice none 0 0]), (true, g15, 24, [.slice ad8 ks5.length cp9, .slice ad11 js6.length cp12])] ac _ := hs.re ⟨rfl, rfl, rfl, rfl, rfl, rfl, rfl, rfl, rfl, rfl, rfl, rfl, rfl, rfl, rfl, rfl, rfl, trivial⟩
    have hl16 := hs.ownLen 9 rfl
    replace hs := hs.freeze 9 rfl
    have hl17 := hs.ownLen 10 rfl
    replace hs := hs.freeze 10 rfl
    replace hs := hs.freezeB 11 rfl
    replace hs := hs.splitY 11 rfl hl16 hl17
    replace hs : St 29 ⟨w0, [], [(true, .cel (.slice am ks.length cm) ks.length vs), (true, .bys vs ks), (true, .cel (.slice aa js.length ca) js.length us), (true, .bys us js), (true, .cel (.slice al l.length cl) l.length (bcs l)), (true, .cel (.slice a kk.length c) kk.length v), (true, .bys v kk), (true, .cel (.slice b jj.length d) jj.length u), (true, .bys u jj), (true, .cel (.slice ad8 ks5.length cp9) ks5.length vs10), (true, .cel (.slice ad11 js6.length cp12) js6.length us13), (true, .bys (vs10 ++ us13 ++ ([])) (ks5 ++ js6 ++ ([]))), (true, .bys vs10 ks5), (true, .bys us13 js6)], Z, X⟩ [(0, true, .agg #[.slice am ks.length cm, .slice aa js.length ca]), (1, true, .slice al l.length cl), (2, true, .pointer (some ⟨g1, 0, none⟩)), (4, true, .pointer (some ⟨g2, 0, none⟩)), (5, true, .bool false), (6, true, .int .i64 ((i : Nat) : Int)), (16, true, .slice al l.length cl), (17, true, .int .i64 ((i : Nat) : Int)), (18, true, vidx (.slice al l.length cl) i), (19, true, .int .u8 ((byt l i : Nat) : Int)), (20, true, .agg #[.slice a kk.length c, .slice b jj.length d]), (21, true, .tuple #[.agg #[.slice ad8 ks5.length cp9, .slice ad11 js6.length cp12], .int .i64 ((e7 : Nat) : Int)]), (15, true, .tuple #[.agg #[.slice ad8 ks5.length cp9, .slice ad11 js6.length cp12], .int .i64 ((e7 : Nat) : Int)]), (22, true, .agg #[.slice ad8 ks5.length cp9, .slice ad11 js6.length cp12]), (23, true, .int .i64 ((e7 : Nat) : Int)), (7, true, .pointer (some ⟨g15, 0, none⟩)), (8, true, .int .i64 ((e7 : Nat) : Int))] [(true, g1, 24, [.slice a kk.length c, .slice b jj.length d]), (true, g2, 24, [.slice none 0 0, .slice none 0 0]), (true, g15, 24, [.slice ad8 ks5.length cp9, .slice ad11 js6.length cp12])] ac _ := hs.re ⟨rfl, rfl, rfl, rfl, rfl, rfl, rfl, rfl, rfl, rfl, rfl, rfl, rfl, rfl, rfl, rfl, rfl, trivial⟩
    refine then_n ?_
    refine wp_seq ?_
    refine wp_seq ?_
    refine wp_region_lit ?_
    refine lstep (wpO_plain rfl (op_move hs none rfl rfl rfl rfl fun ac hs => ?_))
    refine lstep (wpO_plain rfl (op_bin hs none (v := .bool (decide (e7 ≠ 0))) rfl rfl rfl rfl (fun _ => rfl) (bin_neqN (x := e7) (y := 0)) rfl fun ac hs => ?_))
    refine wpList_nil ?_
    refine then_n ?_
    refine wp_cond_split (hs.ev rfl) (fun hc => ?_) (fun hc => ?_)
    · skip
      have hp18 := of_decide_eq_true hc
      have he0 := of_decide_eq_true hc
      refine wp_seq ?_
      refine wp_region_lit ?_
      refine lstep (wpO_plain rfl (op_load hs none 0 (v := .agg #[.slice a kk.length c, .slice b jj.length d]) rfl rfl rfl rfl Try.isAgg24 Try.sizeOf24 rfl rfl fun ac hs => ?_))
      refine lstep (wpO_plain rfl (op_store hs 1 (vs := [.slice a kk.length c, .slice b jj.length d]) rfl rfl rfl rfl rfl Try.sizeOf24 rfl rfl rfl rfl rfl fun w hs => ?_))
      refine lstep (wpO_plain rfl (op_assign hs none rfl rfl rfl rfl fun ac hs => ?_))
      refine wpList_nil ?_
      refine then_n ?_
      refine wp_ret ?_
      refine then_r ?_
      refine blk_r ?_
      refine then_r ?_
      refine then_r ?_
      refine blk_r ?_
      refine then_r ?_
      obtain ⟨rfl, rfl, rfl⟩ := inj3 ((times_no hlt hrel hks5 he0).symm.trans hp)
      exact bodyPost_ret (res2 rfl (rv_c hs 1 (v := .agg #[.slice a kk.length c, .slice b jj.length d]) rfl rfl Try.isAgg24 Try.sizeOf24 rfl) (rv_t hs rfl)) hs.defers ⟨⟨a, c, v, b, d, u, noX⟩, rfl, ((hs.selS [0, 1, 2, 3, 4, 5, 6, 7, 8] rfl (by decide)).selB [] rfl (by decide)).mem⟩
    · skip
      have hp19 := of_decide_eq_false hc
      have he0 : e7 = 0 := Classical.not_not.1 (of_decide_eq_false hc)
      rw [he0] at hks5
      refine wp_skip ?_
      refine then_n ?_
      refine wp_region_lit ?_
      refine lstep (wpO_plain rfl (op_load hs none 2 (v := .agg #[.slice ad8 ks5.length cp9, .slice ad11 js6.length cp12]) rfl rfl rfl rfl Try.isAgg24 Try.sizeOf24 rfl rfl fun ac hs => ?_))
      refine lstep (wpO_plain rfl (op_store hs 0 (vs := [.slice ad8 ks5.length cp9, .slice ad11 js6.length cp12]) rfl rfl rfl rfl rfl Try.sizeOf24 rfl rfl rfl rfl rfl fun w hs => ?_))
      refine wpList_nil ?_
      refine blk_n ?_
      refine then_n ?_
      refine wp_region_lit ?_
      refine lstep (wpO_plain rfl (op_move hs none rfl rfl rfl rfl fun ac hs => ?_))
      refine lstep (wpO_plain rfl (op_bin hs none (v := .int .i64 ((i + 1 : Nat) : Int)) rfl rfl rfl rfl (fun _ => rfl) (bin_addN (x := i) (y := 1) (z := i + 1) rfl (show i + 1 < 9223372036854775808 by omega)) rfl fun ac hs => ?_))
      refine lstep (wpO_plain rfl (op_assign hs none rfl rfl rfl rfl fun ac hs => ?_))
      refine wpList_nil ?_
      refine then_n ?_
      replace hs := (hs.takeb 2).selS [0, 1, 2, 3, 4, 9, 12, 10, 13] rfl (by decide)
      exact ⟨_, ⟨(i + 1), ad8, cp9, vs10, ad11, cp12, us13, ks5, js6, rfl, (by omega), (do_ok hks5).1, (do_ok hks5).2, (times_go hlt hrel hks5), (hs.re (fs' := [(0, true, .agg #[.slice am ks.length cm, .slice aa js.length ca]), (1, true, .slice al l.length cl), (2, true, .pointer (some ⟨g1, 0, none⟩)), (4, true, .pointer (some ⟨g2, 0, none⟩)), (5, true, .bool false), (6, true, .int .i64 (((i + 1) : Nat) : Int))]) ⟨rfl, rfl, rfl, rfl, rfl, rfl, trivial⟩)⟩, (by omega)⟩
  · skip
    have hp20 := of_decide_eq_false hc
    have hge := of_decide_eq_false hc
    refine wp_exit ?_
    refine then_e ?_
    refine then_e ?_
    refine blk_e ?_
    refine then_n ?_
    refine wp_seq ?_
    refine wp_region_lit ?_
    refine lstep (wpO_plain rfl (op_load hs none 0 (v := .agg #[.slice a kk.length c, .slice b jj.length d]) rfl rfl rfl rfl Try.isAgg24 Try.sizeOf24 rfl rfl fun ac hs => ?_))
    refine lstep (wpO_plain rfl (op_store hs 1 (vs := [.slice a kk.length c, .slice b jj.length d]) rfl rfl rfl rfl rfl Try.sizeOf24 rfl rfl rfl rfl rfl fun w hs => ?_))
    refine lstep (wpO_plain rfl (op_assign hs none rfl rfl rfl rfl fun ac hs => ?_))
    refine wpList_nil ?_
    refine then_n ?_
    refine wp_ret ?_
    obtain ⟨rfl, rfl, rfl⟩ := inj3 ((times_end hge hrel).symm.trans hp)
    exact bodyPost_ret (res2 rfl (rv_c hs 1 (v := .agg #[.slice a kk.length c, .slice b jj.length d]) rfl rfl Try.isAgg24 Try.sizeOf24 rfl) (rv_t hs rfl)) hs.defers ⟨⟨a, c, v, b, d, u, noX⟩, rfl, ((hs.selS [0, 1, 2, 3, 4, 5, 6, 7, 8] rfl (by decide)).selB [] rfl (by decide)).mem⟩
theorem alive_c  (w0 : World) (Z : Nat → Prop) : Calls Try.prog 9 #[] w0 fun e w' => Ret w0 Z (ρ := Unit) (fun r => .bool true) (fun r => []) e w' := by
  refine enterS (n := 66) (args := []) (S := []) (Z := Z) Try.func9 rfl rfl (Nat.le_of_ble_eq_true rfl) sok0 rfl fun ac hs => ?_
  refine wp_seq ?_
  refine wp_region_lit ?_
  refine lstep (wpO_plain rfl (op_assign hs none rfl rfl rfl rfl fun ac hs => ?_))
  refine wpList_nil ?_
  refine then_n ?_
  refine wp_seq ?_
  refine wp_region_lit ?_
  refine lstep (wpO_plain rfl (op_bsO hs none none (qs := [(0, .int .u8 2)]) (cs := [.int .u8 2]) (cs' := bcs [UInt8.ofNat 2]) rfl rfl rfl rfl Try.underlying34 inf_u8_5 (by decide) (by decide) (fill_one _ _ rfl ) rfl (bcs_cons (by decide) rfl) rfl rfl fun ad2 ac w hs => ?_))
  refine lstep (wpO_plain rfl (op_bsO hs none none (qs := [(0, .int .u8 3)]) (cs := [.int .u8 3]) (cs' := bcs [UInt8.ofNat 3]) rfl rfl rfl rfl Try.underlying34 inf_u8_5 (by decide) (by decide) (fill_one _ _ rfl ) rfl (bcs_cons (by decide) rfl) rfl rfl fun ad4 ac w hs => ?_))
  refine lstep (wpO_plain rfl (op_bsO hs none none (qs := [(0, .slice ad2 1 1), (1, .slice ad4 1 1)]) (cs := [.slice ad2 1 1, .slice ad4 1 1]) rfl rfl rfl rfl Try.underlying22 inf_slice_34 (by decide) (by decide) (fill_two _ _ _ rfl rfl) rfl rfl rfl rfl fun ad6 ac w hs => ?_))
  refine lstep (wpO_plain rfl (op_build hs none (qs := [(0, .slice ad6 2 2)]) (v := .agg #[.slice ad6 2 2, .slice none 0 0]) rfl rfl rfl rfl (fun _ => by kernel_rfl) rfl fun ac hs => ?_))
  replace hs := hs.freeze 2 rfl
  replace hs := hs.nilBys none rfl
  replace hs := hs.freeze 0 rfl
  replace hs := hs.snocBys (l := [UInt8.ofNat 2]) (ls' := [[UInt8.ofNat 2]]) 3 0 rfl rfl rfl
  replace hs := hs.freeze 1 rfl
  replace hs := hs.snocBys (l := [UInt8.ofNat 3]) (ls' := [[UInt8.ofNat 2], [UInt8.ofNat 3]]) 3 1 rfl rfl rfl
  replace hs := hs.bysEq 3 (vs' := [.slice ad2 1 1, .slice ad4 1 1]) (ls' := [[UInt8.ofNat 2], [UInt8.ofNat 3]]) rfl rfl rfl
  replace hs : St 66 ⟨w0, [], [(true, .cel (.slice ad2 1 1) 1 (bcs ([UInt8.ofNat 2]))), (true, .cel (.slice ad4 1 1) 1 (bcs ([UInt8.ofNat 3]))), (true, .cel (.slice ad6 2 2) 2 ([.slice ad2 1 1, .slice ad4 1 1])), (true, .bys ([.slice ad2 1 1, .slice ad4 1 1]) ([[UInt8.ofNat 2], [UInt8.ofNat 3]]))], Z, noX⟩ [(0, true, .bool false), (8, true, .slice ad2 1 1), (9, true, .slice ad4 1 1), (10, true, .slice ad6 2 2), (11, true, .agg #[.slice ad6 2 2, .slice none 0 0])] [] ac _ := hs.re ⟨rfl, rfl, rfl, rfl, rfl, trivial⟩
  replace hs := hs.nilCel none rfl
  replace hs := hs.nilBys none rfl
  replace hs : St 66 ⟨w0, [], [(true, .cel (.slice ad2 1 1) 1 (bcs ([UInt8.ofNat 2]))), (true, .cel (.slice ad4 1 1) 1 (bcs ([UInt8.ofNat 3]))), (true, .cel (.slice ad6 2 2) 2 ([.slice ad2 1 1, .slice ad4 1 1])), (true, .bys ([.slice ad2 1 1, .slice ad4 1 1]) ([[UInt8.ofNat 2], [UInt8.ofNat 3]])), (true, .cel (.slice none 0 0) 0 ([])), (true, .bys ([]) ([]))], Z, noX⟩ [(0, true, .bool false), (8, true, .slice ad2 1 1), (9, true, .slice ad4 1 1), (10, true, .slice ad6 2 2), (11, true, .agg #[.slice ad6 2 2, .slice none 0 0])] [] ac _ := hs.re ⟨rfl, rfl, rfl, rfl, rfl, trivial⟩
  refine lstep (wpO_plain rfl (op_callX (F := 11) (ρ := M2) hs none none [] [2, 3, 4, 5] (v := fun r => .tuple #[.agg #[.slice r.a (([[UInt8.ofNat 5]]).length) r.c, .slice r.b (([]).length) r.d], .int .i64 0]) (S1 := [(true, .cel (.slice ad6 2 2) 2 ([.slice ad2 1 1, .slice ad4 1 1])), (true, .bys ([.slice ad2 1 1, .slice ad4 1 1]) ([[UInt8.ofNat 2], [UInt8.ofNat 3]])), (true, .cel (.slice none 0 0) 0 ([])), (true, .bys ([]) ([]))]) (bs1 := []) (E := fun r => [(true, .cel (.slice ad6 2 2) 2 ([.slice ad2 1 1, .slice ad4 1 1])), (true, .bys ([.slice ad2 1 1, .slice ad4 1 1]) ([[UInt8.ofNat 2], [UInt8.ofNat 3]])), (true, .cel (.slice none 0 0) 0 ([])), (true, .bys ([]) ([])), (true, .own (.slice r.a (([[UInt8.ofNat 5]]).length) r.c) 34 1 (([[UInt8.ofNat 5]]).length) r.vs), (true, .own (.slice r.b (([]).length) r.d) 34 1 (([]).length) r.us), (true, .bysO r.G (r.vs ++ r.us ++ ([])) (([[UInt8.ofNat 5]]) ++ ([]) ++ ([])))]) (E1 := fun r => [(true, .cel (.slice ad6 2 2) 2 ([.slice ad2 1 1, .slice ad4 1 1])), (true, .bys ([.slice ad2 1 1, .slice ad4 1 1]) ([[UInt8.ofNat 2], [UInt8.ofNat 3]])), (true, .cel (.slice none 0 0) 0 ([])), (true, .bys ([]) ([]))]) (E2 := fun r => [.own (.slice r.a (([[UInt8.ofNat 5]]).length) r.c) 34 1 (([[UInt8.ofNat 5]]).length) r.vs, .own (.slice r.b (([]).length) r.d) 34 1 (([]).length) r.us, .bysO r.G (r.vs ++ r.us ++ ([])) (([[UInt8.ofNat 5]]) ++ ([]) ++ ([]))]) (bfA := fun r => []) (bf := fun r => []) (bf2 := fun r => []) rfl rfl rfl rfl rfl (Try.call11 _) rfl rfl (by decide) (by decide) (fun Z X hm => do_c ad6 2 ([.slice ad2 1 1, .slice ad4 1 1]) none 0 ([]) ([[UInt8.ofNat 2], [UInt8.ofNat 3]]) ([]) 147 ([[UInt8.ofNat 5]]) ([]) 0 (show OkN 1000 [[UInt8.ofNat 2], [UInt8.ofNat 3]] from ⟨by decide, by decide⟩) OkN.nil do_147 _ _ _ hm) (fun _ => rfl) (fun _ => rfl) (fun _ => rfl) (fun _ => rfl) (fun _ => rfl) rfl fun ⟨ad10, cp11, vs12, ad13, cp14, us15, G16⟩ ac w hs => ?_))
  refine lstep (wpO_plain rfl (op_move hs none rfl rfl rfl rfl fun ac hs => ?_))
  refine lstep (wpO_plain rfl (op_extract hs none rfl rfl rfl rfl rfl fun ac hs => ?_))
  refine lstep (wpO_plain rfl (op_extract hs none rfl rfl rfl rfl rfl fun ac hs => ?_))
  refine lstep (wpO_plain rfl (op_alloc hs none none (cs := [.slice none 0 0, .slice none 0 0]) rfl rfl Try.zeroValue24 (by kernel_rfl) rfl rfl fun g17 ac w hs => ?_))
  refine lstep (wpO_plain rfl (op_store hs 0 (vs := [.slice ad10 (([[UInt8.ofNat 5]]).length) cp11, .slice ad13 (([]).length) cp14]) rfl rfl rfl rfl rfl Try.sizeOf24 rfl rfl rfl rfl rfl fun w hs => ?_))
  refine lstep (wpO_plain rfl (op_assign hs none rfl rfl rfl rfl fun ac hs => ?_))
  refine wpList_nil ?_
  replace hs : St 66 ⟨w0, [], [(true, .cel (.slice ad2 1 1) 1 (bcs ([UInt8.ofNat 2]))), (true, .cel (.slice ad4 1 1) 1 (bcs ([UInt8.ofNat 3]))), (true, .cel (.slice ad6 2 2) 2 ([.slice ad2 1 1, .slice ad4 1 1])), (true, .bys ([.slice ad2 1 1, .slice ad4 1 1]) ([[UInt8.ofNat 2], [UInt8.ofNat 3]])), (true, .cel (.slice none 0 0) 0 ([])), (true, .bys ([]) ([])), (true, .own (.slice ad10 (([[UInt8.ofNat 5]]).length) cp11) 34 1 (([[UInt8.ofNat 5]]).length) vs12), (true, .own (.slice ad13 (([]).length) cp14) 34 1 (([]).length) us15), (true, .bysO G16 (vs12 ++ us15 ++ ([])) (([[UInt8.ofNat 5]]) ++ ([]) ++ ([])))], Z, noX⟩ [(0, true, .bool false), (8, true, .slice ad2 1 1), (9, true, .slice ad4 1 1), (10, true, .slice ad6 2 2), (11, true, .agg #[.slice ad6 2 2, .slice none 0 0]), (12, true, .tuple #[.agg #[.slice ad10 (([[UInt8.ofNat 5]]).length) cp11, .slice ad13 (([]).length) cp14], .int .i64 0]), (7, true, .tuple #[.agg #[.slice ad10 (([[UInt8.ofNat 5]]).length) cp11, .slice ad13 (([]).length) cp14], .int .i64 0]), (13, true, .agg #[.slice ad10 (([[UInt8.ofNat 5]]).length) cp11, .slice ad13 (([]).length) cp14]), (14, true, .int .i64 0), (1, true, .pointer (some ⟨g17, 0, none⟩)), (2, true, .int .i64 0)] [(true, g17, 24, [.slice ad10 (([[UInt8.ofNat 5]]).length) cp11, .slice ad13 (([]).length) cp14])] ac _ := hs.re ⟨rfl, rfl, rfl, rfl, rfl, rfl, rfl, rfl, rfl, rfl, rfl, trivial⟩
  have hl18 := hs.ownLen 6 rfl
  replace hs := hs.freeze 6 rfl
  have hl19 := hs.ownLen 7 rfl
  replace hs := hs.freeze 7 rfl
  replace hs := hs.freezeB 8 rfl
  replace hs := hs.splitY 8 rfl hl18 hl19
  replace hs : St 66 ⟨w0, [], [(true, .cel (.slice ad2 1 1) 1 (bcs ([UInt8.ofNat 2]))), (true, .cel (.slice ad4 1 1) 1 (bcs ([UInt8.ofNat 3]))), (true, .cel (.slice ad6 2 2) 2 ([.slice ad2 1 1, .slice ad4 1 1])), (true, .bys ([.slice ad2 1 1, .slice ad4 1 1]) ([[UInt8.ofNat 2], [UInt8.ofNat 3]])), (true, .cel (.slice none 0 0) 0 ([])), (true, .bys ([]) ([])), (true, .cel (.slice ad10 (([[UInt8.ofNat 5]]).length) cp11) (([[UInt8.ofNat 5]]).length) vs12), (true, .cel (.slice ad13 (([]).length) cp14) (([]).length) us15), (true, .bys (vs12 ++ us15 ++ ([])) (([[UInt8.ofNat 5]]) ++ ([]) ++ ([]))), (true, .bys vs12 ([[UInt8.ofNat 5]])), (true, .bys us15 ([]))], Z, noX⟩ [(0, true, .bool false), (8, true, .slice ad2 1 1), (9, true, .slice ad4 1 1), (10, true, .slice ad6 2 2), (11, true, .agg #[.slice ad6 2 2, .slice none 0 0]), (12, true, .tuple #[.agg #[.slice ad10 (([[UInt8.ofNat 5]]).length) cp11, .slice ad13 (([]).length) cp14], .int .i64 0]), (7, true, .tuple #[.agg #[.slice ad10 (([[UInt8.ofNat 5]]).length) cp11, .slice ad13 (([]).length) cp14], .int .i64 0]), (13, true, .agg #[.slice ad10 (([[UInt8.ofNat 5]]).length) cp11, .slice ad13 (([]).length) cp14]), (14, true, .int .i64 0), (1, true, .pointer (some ⟨g17, 0, none⟩)), (2, true, .int .i64 0)] [(true, g17, 24, [.slice ad10 (([[UInt8.ofNat 5]]).length) cp11, .slice ad13 (([]).length) cp14])] ac _ := hs.re ⟨rfl, rfl, rfl, rfl, rfl, rfl, rfl, rfl, rfl, rfl, rfl, trivial⟩
  obtain ⟨al20, cl21, hv22⟩ := bysv_at (l := [UInt8.ofNat 5]) (i := 0) (hs.all (k := 9) rfl rfl) rfl
  replace hs := hs.pick none 9 (i := 0) (l := [UInt8.ofNat 5]) rfl hv22 rfl rfl
  refine then_n ?_
  refine wp_seq ?_
  refine wp_region_lit ?_
  refine lstep (wpO_plain rfl (op_build hs none (qs := []) (v := .agg #[.slice none 0 0, .slice none 0 0]) rfl rfl rfl rfl (fun _ => by kernel_rfl) rfl fun ac hs => ?_))
  replace hs := hs.nilCel none rfl
  replace hs := hs.nilBys none rfl
  replace hs : St 66 ⟨w0, [], [(true, .cel (.slice ad2 1 1) 1 (bcs ([UInt8.ofNat 2]))), (true, .cel (.slice ad4 1 1) 1 (bcs ([UInt8.ofNat 3]))), (true, .cel (.slice ad6 2 2) 2 ([.slice ad2 1 1, .slice ad4 1 1])), (true, .bys ([.slice ad2 1 1, .slice ad4 1 1]) ([[UInt8.ofNat 2], [UInt8.ofNat 3]])), (true, .cel (.slice none 0 0) 0 ([])), (true, .bys ([]) ([])), (true, .cel (.slice ad10 (([[UInt8.ofNat 5]]).length) cp11) (([[UInt8.ofNat 5]]).length) vs12), (true, .cel (.slice ad13 (([]).length) cp14) (([]).length) us15), (true, .bys (vs12 ++ us15 ++ ([])) (([[UInt8.ofNat 5]]) ++ ([]) ++ ([]))), (true, .bys vs12 ([[UInt8.ofNat 5]])), (true, .bys us15 ([])), (true, .cel (.slice al20 (([UInt8.ofNat 5]).length) cl21) (([UInt8.ofNat 5]).length) (bcs ([UInt8.ofNat 5]))), (true, .cel (.slice none 0 0) 0 ([])), (true, .bys ([]) ([]))], Z, noX⟩ [(0, true, .bool false), (8, true, .slice ad2 1 1), (9, true, .slice ad4 1 1), (10, true, .slice ad6 2 2), (11, true, .agg #[.slice ad6 2 2, .slice none 0 0]), (12, true, .tuple #[.agg #[.slice ad10 (([[UInt8.ofNat 5]]).length) cp11, .slice ad13 (([]).length) cp14], .int .i64 0]), (7, true, .tuple #[.agg #[.slice ad10 (([[UInt8.ofNat 5]]).length) cp11, .slice ad13 (([]).length) cp14], .int .i64 0]), (13, true, .agg #[.slice ad10 (([[UInt8.ofNat 5]]).length) cp11, .slice ad13 (([]).length) cp14]), (14, true, .int .i64 0), (1, true, .pointer (some ⟨g17, 0, none⟩)), (2, true, .int .i64 0), (16, true, .agg #[.slice none 0 0, .slice none 0 0])] [(true, g17, 24, [.slice ad10 (([[UInt8.ofNat 5]]).length) cp11, .slice ad13 (([]).length) cp14])] ac _ := hs.re ⟨rfl, rfl, rfl, rfl, rfl, rfl, rfl, rfl, rfl, rfl, rfl, rfl, trivial⟩
  replace hs := hs.nilCel none rfl
  replace hs := hs.nilBys none rfl
  replace hs : St 66 ⟨w0, [], [(true, .cel (.slice ad2 1 1) 1 (bcs ([UInt8.ofNat 2]))), (true, .cel (.slice ad4 1 1) 1 (bcs ([UInt8.ofNat 3]))), (true, .cel (.slice ad6 2 2) 2 ([.slice ad2 1 1, .slice ad4 1 1])), (true, .bys ([.slice ad2 1 1, .slice ad4 1 1]) ([[UInt8.ofNat 2], [UInt8.ofNat 3]])), (true, .cel (.slice none 0 0) 0 ([])), (true, .bys ([]) ([])), (true, .cel (.slice ad10 (([[UInt8.ofNat 5]]).length) cp11) (([[UInt8.ofNat 5]]).length) vs12), (true, .cel (.slice ad13 (([]).length) cp14) (([]).length) us15), (true, .bys (vs12 ++ us15 ++ ([])) (([[UInt8.ofNat 5]]) ++ ([]) ++ ([]))), (true, .bys vs12 ([[UInt8.ofNat 5]])), (true, .bys us15 ([])), (true, .cel (.slice al20 (([UInt8.ofNat 5]).length) cl21) (([UInt8.ofNat 5]).length) (bcs ([UInt8.ofNat 5]))), (true, .cel (.slice none 0 0) 0 ([])), (true, .bys ([]) ([])), (true, .cel (.slice none 0 0) 0 ([])), (true, .bys ([]) ([]))], Z, noX⟩ [(0, true, .bool false), (8, true, .slice ad2 1 1), (9, true, .slice ad4 1 1), (10, true, .slice ad6 2 2), (11, true, .agg #[.slice ad6 2 2, .slice none 0 0]), (12, true, .tuple #[.agg #[.slice ad10 (([[UInt8.ofNat 5]]).length) cp11, .slice ad13 (([]).length) cp14], .int .i64 0]), (7, true, .tuple #[.agg #[.slice ad10 (([[UInt8.ofNat 5]]).length) cp11, .slice ad13 (([]).length) cp14], .int .i64 0]), (13, true, .agg #[.slice ad10 (([[UInt8.ofNat 5]]).length) cp11, .slice ad13 (([]).length) cp14]), (14, true, .int .i64 0), (1, true, .pointer (some ⟨g17, 0, none⟩)), (2, true, .int .i64 0), (16, true, .agg #[.slice none 0 0, .slice none 0 0])] [(true, g17, 24, [.slice ad10 (([[UInt8.ofNat 5]]).length) cp11, .slice ad13 (([]).length) cp14])] ac _ := hs.re ⟨rfl, rfl, rfl, rfl, rfl, rfl, rfl, rfl, rfl, rfl, rfl, rfl, trivial⟩
  refine lstep (wpO_plain rfl (op_callX (F := 11) (ρ := M2) hs none none [] [12, 13, 14, 15] (v := fun r => .tuple #[.agg #[.slice r.a (([]).length) r.c, .slice r.b (([]).length) r.d], .int .i64 10]) (S1 := [(true, .cel (.slice none 0 0) 0 ([])), (true, .bys ([]) ([])), (true, .cel (.slice none 0 0) 0 ([])), (true, .bys ([]) ([]))]) (bs1 := []) (E := fun r => [(true, .cel (.slice none 0 0) 0 ([])), (true, .bys ([]) ([])), (true, .cel (.slice none 0 0) 0 ([])), (true, .bys ([]) ([])), (true, .own (.slice r.a (([]).length) r.c) 34 1 (([]).length) r.vs), (true, .own (.slice r.b (([]).length) r.d) 34 1 (([]).length) r.us), (true, .bysO r.G (r.vs ++ r.us ++ ([])) (([]) ++ ([]) ++ ([])))]) (E1 := fun r => [(true, .cel (.slice none 0 0) 0 ([])), (true, .bys ([]) ([])), (true, .cel (.slice none 0 0) 0 ([])), (true, .bys ([]) ([]))]) (E2 := fun r => [.own (.slice r.a (([]).length) r.c) 34 1 (([]).length) r.vs, .own (.slice r.b (([]).length) r.d) 34 1 (([]).length) r.us, .bysO r.G (r.vs ++ r.us ++ ([])) (([]) ++ ([]) ++ ([]))]) (bfA := fun r => []) (bf := fun r => []) (bf2 := fun r => []) rfl rfl rfl rfl rfl (Try.call11 _) rfl rfl (by decide) (by decide) (fun Z X hm => do_c none 0 ([]) none 0 ([]) ([]) ([]) 255 ([]) ([]) 10 OkN.nil OkN.nil do_255 _ _ _ hm) (fun _ => rfl) (fun _ => rfl) (fun _ => rfl) (fun _ => rfl) (fun _ => rfl) rfl fun ⟨ad26, cp27, vs28, ad29, cp30, us31, G32⟩ ac w hs => ?_))
  refine lstep (wpO_plain rfl (op_move hs none rfl rfl rfl rfl fun ac hs => ?_))
  refine lstep (wpO_plain rfl (op_extract hs none rfl rfl rfl rfl rfl fun ac hs => ?_))
  refine lstep (wpO_plain rfl (op_extract hs none rfl rfl rfl rfl rfl fun ac hs => ?_))
  refine lstep (wpO_plain rfl (op_alloc hs none none (cs := [.slice none 0 0, .slice none 0 0]) rfl rfl Try.zeroValue24 (by kernel_rfl) rfl rfl fun g33 ac w hs => ?_))
  refine lstep (wpO_plain rfl (op_store hs 1 (vs := [.slice ad26 (([]).length) cp27, .slice ad29 (([]).length) cp30]) rfl rfl rfl rfl rfl Try.sizeOf24 rfl rfl rfl rfl rfl fun w hs => ?_))
  refine lstep (wpO_plain rfl (op_assign hs none rfl rfl rfl rfl fun ac hs => ?_))
  refine wpList_nil ?_
  replace hs : St 66 ⟨w0, [], [(true, .cel (.slice ad2 1 1) 1 (bcs ([UInt8.ofNat 2]))), (true, .cel (.slice ad4 1 1) 1 (bcs ([UInt8.ofNat 3]))), (true, .cel (.slice ad6 2 2) 2 ([.slice ad2 1 1, .slice ad4 1 1])), (true, .bys ([.slice ad2 1 1, .slice ad4 1 1]) ([[UInt8.ofNat 2], [UInt8.ofNat 3]])), (true, .cel (.slice none 0 0) 0 ([])), (true, .bys ([]) ([])), (true, .cel (.slice ad10 (([[UInt8.ofNat 5]]).length) cp11) (([[UInt8.ofNat 5]]).length) vs12), (true, .cel (.slice ad13 (([]).length) cp14) (([]).length) us15), (true, .bys (vs12 ++ us15 ++ ([])) (([[UInt8.ofNat 5]]) ++ ([]) ++ ([]))), (true, .bys vs12 ([[UInt8.ofNat 5]])), (true, .bys us15 ([])), (true, .cel (.slice al20 (([UInt8.ofNat 5]).length) cl21) (([UInt8.ofNat 5]).length) (bcs ([UInt8.ofNat 5]))), (true, .cel (.slice none 0 0) 0 ([])), (true, .bys ([]) ([])), (true, .cel (.slice none 0 0) 0 ([])), (true, .bys ([]) ([])), (true, .own (.slice ad26 (([]).length) cp27) 34 1 (([]).length) vs28), (true, .own (.slice ad29 (([]).length) cp30) 34 1 (([]).length) us31), (true, .bysO G32 (vs28 ++ us31 ++ ([])) (([]) ++ ([]) ++ ([])))], Z, noX⟩ [(0, true, .bool false), (1, true, .pointer (some ⟨g17, 0, none⟩)), (2, true, .int .i64 0), (16, true, .agg #[.slice none 0 0, .slice none 0 0]), (17, true, .tuple #[.agg #[.slice ad26 (([]).length) cp27, .slice ad29 (([]).length) cp30], .int .i64 10]), (15, true, .tuple #[.agg #[.slice ad26 (([]).length) cp27, .slice ad29 (([]).length) cp30], .int .i64 10]), (18, true, .agg #[.slice ad26 (([]).length) cp27, .slice ad29 (([]).length) cp30]), (19, true, .int .i64 10), (3, true, .pointer (some ⟨g33, 0, none⟩)), (4, true, .int .i64 10)] [(true, g17, 24, [.slice ad10 (([[UInt8.ofNat 5]]).length) cp11, .slice ad13 (([]).length) cp14]), (true, g33, 24, [.slice ad26 (([]).length) cp27, .slice ad29 (([]).length) cp30])] ac _ := hs.re ⟨rfl, rfl, rfl, rfl, rfl, rfl, rfl, rfl, rfl, rfl, trivial⟩
  have hl34 := hs.ownLen 16 rfl
  replace hs := hs.freeze 16 rfl
  have hl35 := hs.ownLen 17 rfl
  replace hs := hs.freeze 17 rfl
  replace hs := hs.freezeB 18 rfl
  replace hs := hs.splitY 18 rfl hl34 hl35
  replace hs : St 66 ⟨w0, [], [(true, .cel (.slice ad2 1 1) 1 (bcs ([UInt8.ofNat 2]))), (true, .cel (.slice ad4 1 1) 1 (bcs ([UInt8.ofNat 3]))), (true, .cel (.slice ad6 2 2) 2 ([.slice ad2 1 1, .slice ad4 1 1])), (true, .bys ([.slice ad2 1 1, .slice ad4 1 1]) ([[UInt8.ofNat 2], [UInt8.ofNat 3]])), (true, .cel (.slice none 0 0) 0 ([])), (true, .bys ([]) ([])), (true, .cel (.slice ad10 (([[UInt8.ofNat 5]]).length) cp11) (([[UInt8.ofNat 5]]).length) vs12), (true, .cel (.slice ad13 (([]).length) cp14) (([]).length) us15), (true, .bys (vs12 ++ us15 ++ ([])) (([[UInt8.ofNat 5]]) ++ ([]) ++ ([]))), (true, .bys vs12 ([[UInt8.ofNat 5]])), (true, .bys us15 ([])), (true, .cel (.slice al20 (([UInt8.ofNat 5]).length) cl21) (([UInt8.ofNat 5]).length) (bcs ([UInt8.ofNat 5]))), (true, .cel (.slice none 0 0) 0 ([])), (true, .bys ([]) ([])), (true, .cel (.slice none 0 0) 0 ([])), (true, .bys ([]) ([])), (true, .cel (.slice ad26 (([]).length) cp27) (([]).length) vs28), (true, .cel (.slice ad29 (([]).length) cp30) (([]).length) us31), (true, .bys (vs28 ++ us31 ++ ([])) (([]) ++ ([]) ++ ([]))), (true, .bys vs28 ([])), (true, .bys us31 ([]))], Z, noX⟩ [(0, true, .bool false), (1, true, .pointer (some ⟨g17, 0, none⟩)), (2, true, .int .i64 0), (16, true, .agg #[.slice none 0 0, .slice none 0 0]), (17, true, .tuple #[.agg #[.slice ad26 (([]).length) cp27, .slice ad29 (([]).length) cp30], .int .i64 10]), (15, true, .tuple #[.agg #[.slice ad26 (([]).length) cp27, .slice ad29 (([]).length) cp30], .int .i64 10]), (18, true, .agg #[.slice ad26 (([]).length) cp27, .slice ad29 (([]).length) cp30]), (19, true, .int .i64 10), (3, true, .pointer (some ⟨g33, 0, none⟩)), (4, true, .int .i64 10)] [(true, g17, 24, [.slice ad10 (([[UInt8.ofNat 5]]).length) cp11, .slice ad13 (([]).length) cp14]), (true, g33, 24, [.slice ad26 (([]).length) cp27, .slice ad29 (([]).length) cp30])] ac _ := hs.re ⟨rfl, rfl, rfl, rfl, rfl, rfl, rfl, rfl, rfl, rfl, trivial⟩
  refine then_n ?_
  refine wp_seq ?_
  refine wp_region_lit ?_
  refine lstep (wpO_plain rfl (op_bsO hs none none (qs := [(0, .int .u8 1)]) (cs := [.int .u8 1]) (cs' := bcs [UInt8.ofNat 1]) rfl rfl rfl rfl Try.underlying34 inf_u8_5 (by decide) (by decide) (fill_one _ _ rfl ) rfl (bcs_cons (by decide) rfl) rfl rfl fun ad37 ac w hs => ?_))
  refine lstep (wpO_plain rfl (op_bsO hs none none (qs := [(0, .int .u8 2)]) (cs := [.int .u8 2]) (cs' := bcs [UInt8.ofNat 2]) rfl rfl rfl rfl Try.underlying34 inf_u8_5 (by decide) (by decide) (fill_one _ _ rfl ) rfl (bcs_cons (by decide) rfl) rfl rfl fun ad39 ac w hs => ?_))
  refine lstep (wpO_plain rfl (op_bsO hs none none (qs := [(0, .slice ad37 1 1), (1, .slice ad39 1 1)]) (cs := [.slice ad37 1 1, .slice ad39 1 1]) rfl rfl rfl rfl Try.underlying22 inf_slice_34 (by decide) (by decide) (fill_two _ _ _ rfl rfl) rfl rfl rfl rfl fun ad41 ac w hs => ?_))
  refine lstep (wpO_plain rfl (op_build hs none (qs := [(0, .slice ad41 2 2)]) (v := .agg #[.slice ad41 2 2, .slice none 0 0]) rfl rfl rfl rfl (fun _ => by kernel_rfl) rfl fun ac hs => ?_))
  replace hs := hs.freeze 23 rfl
  replace hs := hs.nilBys none rfl
  replace hs := hs.freeze 21 rfl
  replace hs := hs.snocBys (l := [UInt8.ofNat 1]) (ls' := [[UInt8.ofNat 1]]) 24 21 rfl rfl rfl
  replace hs := hs.freeze 22 rfl
  replace hs := hs.snocBys (l := [UInt8.ofNat 2]) (ls' := [[UInt8.ofNat 1], [UInt8.ofNat 2]]) 24 22 rfl rfl rfl
  replace hs := hs.bysEq 24 (vs' := [.slice ad37 1 1, .slice ad39 1 1]) (ls' := [[UInt8.ofNat 1], [UInt8.ofNat 2]]) rfl rfl rfl
  replace hs : St 66 ⟨w0, [], [(true, .cel (.slice ad2 1 1) 1 (bcs ([UInt8.ofNat 2]))), (true, .cel (.slice ad4 1 1) 1 (bcs ([UInt8.ofNat 3]))), (true, .cel (.slice ad6 2 2) 2 ([.slice ad2 1 1, .slice ad4 1 1])), (true, .bys ([.slice ad2 1 1, .slice ad4 1 1]) ([[UInt8.ofNat 2], [UInt8.ofNat 3]])), (true, .cel (.slice none 0 0) 0 ([])), (true, .bys ([]) ([])), (true, .cel (.slice ad10 (([[UInt8.ofNat 5]]).length) cp11) (([[UInt8.ofNat 5]]).length) vs12), (true, .cel (.slice ad13 (([]).length) cp14) (([]).length) us15), (true, .bys (vs12 ++ us15 ++ ([])) (([[UInt8.ofNat 5]]) ++ ([]) ++ ([]))), (true, .bys vs12 ([[UInt8.ofNat 5]])), (true, .bys us15 ([])), (true, .cel (.slice al20 (([UInt8.ofNat 5]).length) cl21) (([UInt8.ofNat 5]).length) (bcs ([UInt8.ofNat 5]))), (true, .cel (.slice none 0 0) 0 ([])), (true, .bys ([]) ([])), (true, .cel (.slice none 0 0) 0 ([])), (true, .bys ([]) ([])), (true, .cel (.slice ad26 (([]).length) cp27) (([]).length) vs28), (true, .cel (.slice ad29 (([]).length) cp30) (([]).length) us31), (true, .bys (vs28 ++ us31 ++ ([])) (([]) ++ ([]) ++ ([]))), (true, .bys vs28 ([])), (true, .bys us31 ([])), (true, .cel (.slice ad37 1 1) 1 (bcs ([UInt8.ofNat 1]))), (true, .cel (.slice ad39 1 1) 1 (bcs ([UInt8.ofNat 2]))), (true, .cel (.slice ad41 2 2) 2 ([.slice ad37 1 1, .slice ad39 1 1])), (true, .bys ([.slice ad37 1 1, .slice ad39 1 1]) ([[UInt8.ofNat 1], [UInt8.ofNat 2]]))], Z, noX⟩ [(0, true, .bool false), (1, true, .pointer (some ⟨g17, 0, none⟩)), (2, true, .int .i64 0), (16, true, .agg #[.slice none 0 0, .slice none 0 0]), (17, true, .tuple #[.agg #[.slice ad26 (([]).length) cp27, .slice ad29 (([]).length) cp30], .int .i64 10]), (15, true, .tuple #[.agg #[.slice ad26 (([]).length) cp27, .slice ad29 (([]).length) cp30], .int .i64 10]), (18, true, .agg #[.slice ad26 (([]).length) cp27, .slice ad29 (([]).length) cp30]), (19, true, .int .i64 10), (3, true, .pointer (some ⟨g33, 0, none⟩)), (4, true, .int .i64 10), (21, true, .slice ad37 1 1), (22, true, .slice ad39 1 1), (23, true, .slice ad41 2 2), (24, true, .agg #[.slice ad41 2 2, .slice none 0 0])] [(true, g17, 24, [.slice ad10 (([[UInt8.ofNat 5]]).length) cp11, .slice ad13 (([]).length) cp14]), (true, g33, 24, [.slice ad26 (([]).length) cp27, .slice ad29 (([]).length) cp30])] ac _ := hs.re ⟨rfl, rfl, rfl, rfl, rfl, rfl, rfl, rfl, rfl, rfl, rfl, rfl, rfl, rfl, trivial⟩
  replace hs := hs.nilCel none rfl
  replace hs := hs.nilBys none rfl
  replace hs : St 66 ⟨w0, [], [(true, .cel (.slice ad2 1 1) 1 (bcs ([UInt8.ofNat 2]))), (true, .cel (.slice ad4 1 1) 1 (bcs ([UInt8.ofNat 3]))), (true, .cel (.slice ad6 2 2) 2 ([.slice ad2 1 1, .slice ad4 1 1])), (true, .bys ([.slice ad2 1 1, .slice ad4 1 1]) ([[UInt8.ofNat 2], [UInt8.ofNat 3]])), (true, .cel (.slice none 0 0) 0 ([])), (true, .bys ([]) ([])), (true, .cel (.slice ad10 (([[UInt8.ofNat 5]]).length) cp11) (([[UInt8.ofNat 5]]).length) vs12), (true, .cel (.slice ad13 (([]).length) cp14) (([]).length) us15), (true, .bys (vs12 ++ us15 ++ ([])) (([[UInt8.ofNat 5]]) ++ ([]) ++ ([]))), (true, .bys vs12 ([[UInt8.ofNat 5]])), (true, .bys us15 ([])), (true, .cel (.slice al20 (([UInt8.ofNat 5]).length) cl21) (([UInt8.ofNat 5]).length) (bcs ([UInt8.ofNat 5]))), (true, .cel (.slice none 0 0) 0 ([])), (true, .bys ([]) ([])), (true, .cel (.slice none 0 0) 0 ([])), (true, .bys ([]) ([])), (true, .cel (.slice ad26 (([]).length) cp27) (([]).length) vs28), (true, .cel (.slice ad29 (([]).length) cp30) (([]).length) us31), (true, .bys (vs28 ++ us31 ++ ([])) (([]) ++ ([]) ++ ([]))), (true, .bys vs28 ([])), (true, .bys us31 ([])), (true, .cel (.slice ad37 1 1) 1 (bcs ([UInt8.ofNat 1]))), (true, .cel (.slice ad39 1 1) 1 (bcs ([UInt8.ofNat 2]))), (true, .cel (.slice ad41 2 2) 2 ([.slice ad37 1 1, .slice ad39 1 1])), (true, .bys ([.slice ad37 1 1, .slice ad39 1 1]) ([[UInt8.ofNat 1], [UInt8.ofNat 2]])), (true, .cel (.slice none 0 0) 0 ([])), (true, .bys ([]) ([]))], Z, noX⟩ [(0, true, .bool false), (1, true, .pointer (some ⟨g17, 0, none⟩)), (2, true, .int .i64 0), (16, true, .agg #[.slice none 0 0, .slice none 0 0]), (17, true, .tuple #[.agg #[.slice ad26 (([]).length) cp27, .slice ad29 (([]).length) cp30], .int .i64 10]), (15, true, .tuple #[.agg #[.slice ad26 (([]).length) cp27, .slice ad29 (([]).length) cp30], .int .i64 10]), (18, true, .agg #[.slice ad26 (([]).length) cp27, .slice ad29 (([]).length) cp30]), (19, true, .int .i64 10), (3, true, .pointer (some ⟨g33, 0, none⟩)), (4, true, .int .i64 10), (21, true, .slice ad37 1 1), (22, true, .slice ad39 1 1), (23, true, .slice ad41 2 2), (24, true, .agg #[.slice ad41 2 2, .slice none 0 0])] [(true, g17, 24, [.slice ad10 (([[UInt8.ofNat 5]]).length) cp11, .slice ad13 (([]).length) cp14]), (true, g33, 24, [.slice ad26 (([]).length) cp27, .slice ad29 (([]).length) cp30])] ac _ := hs.re ⟨rfl, rfl, rfl, rfl, rfl, rfl, rfl, rfl, rfl, rfl, rfl, rfl, rfl, rfl, trivial⟩
  refine lstep (wpO_plain rfl (op_callX (F := 11) (ρ := M2) hs none none [] [23, 24, 25, 26] (v := fun r => .tuple #[.agg #[.slice r.a (([[UInt8.ofNat 1, UInt8.ofNat 2]]).length) r.c, .slice r.b (([]).length) r.d], .int .i64 0]) (S1 := [(true, .cel (.slice ad41 2 2) 2 ([.slice ad37 1 1, .slice ad39 1 1])), (true, .bys ([.slice ad37 1 1, .slice ad39 1 1]) ([[UInt8.ofNat 1], [UInt8.ofNat 2]])), (true, .cel (.slice none 0 0) 0 ([])), (true, .bys ([]) ([]))]) (bs1 := []) (E := fun r => [(true, .cel (.slice ad41 2 2) 2 ([.slice ad37 1 1, .slice ad39 1 1])), (true, .bys ([.slice ad37 1 1, .slice ad39 1 1]) ([[UInt8.ofNat 1], [UInt8.ofNat 2]])), (true, .cel (.slice none 0 0) 0 ([])), (true, .bys ([]) ([])), (true, .own (.slice r.a (([[UInt8.ofNat 1, UInt8.ofNat 2]]).length) r.c) 34 1 (([[UInt8.ofNat 1, UInt8.ofNat 2]]).length) r.vs), (true, .own (.slice r.b (([]).length) r.d) 34 1 (([]).length) r.us), (true, .bysO r.G (r.vs ++ r.us ++ ([])) (([[UInt8.ofNat 1, UInt8.ofNat 2]]) ++ ([]) ++ ([])))]) (E1 := fun r => [(true, .cel (.slice ad41 2 2) 2 ([.slice ad37 1 1, .slice ad39 1 1])), (true, .bys ([.slice ad37 1 1, .slice ad39 1 1]) ([[UInt8.ofNat 1], [UInt8.ofNat 2]])), (true, .cel (.slice none 0 0) 0 ([])), (true, .bys ([]) ([]))]) (E2 := fun r => [.own (.slice r.a (([[UInt8.ofNat 1, UInt8.ofNat 2]]).length) r.c) 34 1 (([[UInt8.ofNat 1, UInt8.ofNat 2]]).length) r.vs, .own (.slice r.b (([]).length) r.d) 34 1 (([]).length) r.us, .bysO r.G (r.vs ++ r.us ++ ([])) (([[UInt8.ofNat 1, UInt8.ofNat 2]]) ++ ([]) ++ ([]))]) (bfA := fun r => []) (bf := fun r => []) (bf2 := fun r => []) rfl rfl rfl rfl rfl (Try.call11 _) rfl rfl (by decide) (by decide) (fun Z X hm => do_c ad41 2 ([.slice ad37 1 1, .slice ad39 1 1]) none 0 ([]) ([[UInt8.ofNat 1], [UInt8.ofNat 2]]) ([]) 126 ([[UInt8.ofNat 1, UInt8.ofNat 2]]) ([]) 0 (show OkN 1000 [[UInt8.ofNat 1], [UInt8.ofNat 2]] from ⟨by decide, by decide⟩) OkN.nil do_126 _ _ _ hm) (fun _ => rfl) (fun _ => rfl) (fun _ => rfl) (fun _ => rfl) (fun _ => rfl) rfl fun ⟨ad45, cp46, vs47, ad48, cp49, us50, G51⟩ ac w hs => ?_))
  refine lstep (wpO_plain rfl (op_move hs none rfl rfl rfl rfl fun ac hs => ?_))
  refine lstep (wpO_plain rfl (op_extract hs none rfl rfl rfl rfl rfl fun ac hs => ?_))
  refine lstep (wpO_plain rfl (op_extract hs none rfl rfl rfl rfl rfl fun ac hs => ?_))
  refine lstep (wpO_plain rfl (op_alloc hs none none (cs := [.slice none 0 0, .slice none 0 0]) rfl rfl Try.zeroValue24 (by kernel_rfl) rfl rfl fun g52 ac w hs => ?_))
  refine lstep (wpO_plain rfl (op_store hs 2 (vs := [.slice ad45 (([[UInt8.ofNat 1, UInt8.ofNat 2]]).length) cp46, .slice ad48 (([]).length) cp49]) rfl rfl rfl rfl rfl Try.sizeOf24 rfl rfl rfl rfl rfl fun w hs => ?_))
  refine lstep (wpO_plain rfl (op_assign hs none rfl rfl rfl rfl fun ac hs => ?_))
  refine wpList_nil ?_
  replace hs : St 66 ⟨w0, [], [(true, .cel (.slice ad2 1 1) 1 (bcs ([UInt8.ofNat 2]))), (true, .cel (.slice ad4 1 1) 1 (bcs ([UInt8.ofNat 3]))), (true, .cel (.slice ad6 2 2) 2 ([.slice ad2 1 1, .slice ad4 1 1])), (true, .bys ([.slice ad2 1 1, .slice ad4 1 1]) ([[UInt8.ofNat 2], [UInt8.ofNat 3]])), (true, .cel (.slice none 0 0) 0 ([])), (true, .bys ([]) ([])), (true, .cel (.slice ad10 (([[UInt8.ofNat 5]]).length) cp11) (([[UInt8.ofNat 5]]).length) vs12), (true, .cel (.slice ad13 (([]).length) cp14) (([]).length) us15), (true, .bys (vs12 ++ us15 ++ ([])) (([[UInt8.ofNat 5]]) ++ ([]) ++ ([]))), (true, .bys vs12 ([[UInt8.ofNat 5]])), (true, .bys us15 ([])), (true, .cel (.slice al20 (([UInt8.ofNat 5]).length) cl21) (([UInt8.ofNat 5]).length) (bcs ([UInt8.ofNat 5]))), (true, .cel (.slice none 0 0) 0 ([])), (true, .bys ([]) ([])), (true, .cel (.slice none 0 0) 0 ([])), (true, .bys ([]) ([])), (true, .cel (.slice ad26 (([]).length) cp27) (([]).length) vs28), (true, .cel (.slice ad29 (([]).length) cp30) (([]).length) us31), (true, .bys (vs28 ++ us31 ++ ([])) (([]) ++ ([]) ++ ([]))), (true, .bys vs28 ([])), (true, .bys us31 ([])), (true, .cel (.slice ad37 1 1) 1 (bcs ([UInt8.ofNat 1]))), (true, .cel (.slice ad39 1 1) 1 (bcs ([UInt8.ofNat 2]))), (true, .cel (.slice ad41 2 2) 2 ([.slice ad37 1 1, .slice ad39 1 1])), (true, .bys ([.slice ad37 1 1, .slice ad39 1 1]) ([[UInt8.ofNat 1], [UInt8.ofNat 2]])), (true, .cel (.slice none 0 0) 0 ([])), (true, .bys ([]) ([])), (true, .own (.slice ad45 (([[UInt8.ofNat 1, UInt8.ofNat 2]]).length) cp46) 34 1 (([[UInt8.ofNat 1, UInt8.ofNat 2]]).length) vs47), (true, .own (.slice ad48 (([]).length) cp49) 34 1 (([]).length) us50), (true, .bysO G51 (vs47 ++ us50 ++ ([])) (([[UInt8.ofNat 1, UInt8.ofNat 2]]) ++ ([]) ++ ([])))], Z, noX⟩ [(0, true, .bool false), (1, true, .pointer (some ⟨g17, 0, none⟩)), (2, true, .int .i64 0), (4, true, .int .i64 10), (21, true, .slice ad37 1 1), (22, true, .slice ad39 1 1), (23, true, .slice ad41 2 2), (24, true, .agg #[.slice ad41 2 2, .slice none 0 0]), (25, true, .tuple #[.agg #[.slice ad45 (([[UInt8.ofNat 1, UInt8.ofNat 2]]).length) cp46, .slice ad48 (([]).length) cp49], .int .i64 0]), (20, true, .tuple #[.agg #[.slice ad45 (([[UInt8.ofNat 1, UInt8.ofNat 2]]).length) cp46, .slice ad48 (([]).length) cp49], .int .i64 0]), (26, true, .agg #[.slice ad45 (([[UInt8.ofNat 1, UInt8.ofNat 2]]).length) cp46, .slice ad48 (([]).length) cp49]), (27, true, .int .i64 0), (5, true, .pointer (some ⟨g52, 0, none⟩)), (6, true, .int .i64 0)] [(true, g17, 24, [.slice ad10 (([[UInt8.ofNat 5]]).length) cp11, .slice ad13 (([]).length) cp14]), (true, g33, 24, [.slice ad26 (([]).length) cp27, .slice ad29 (([]).length) cp30]), (true, g52, 24, [.slice ad45 (([[UInt8.ofNat 1, UInt8.ofNat 2]]).length) cp46, .slice ad48 (([]).length) cp49])] ac _ := hs.re ⟨rfl, rfl, rfl, rfl, rfl, rfl, rfl, rfl, rfl, rfl, rfl, rfl, rfl, rfl, trivial⟩
  have hl53 := hs.ownLen 27 rfl
  replace hs := hs.freeze 27 rfl
  have hl54 := hs.ownLen 28 rfl
  replace hs := hs.freeze 28 rfl
  replace hs := hs.freezeB 29 rfl
  replace hs := hs.splitY 29 rfl hl53 hl54
  replace hs : St 66 ⟨w0, [], [(true, .cel (.slice ad2 1 1) 1 (bcs ([UInt8.ofNat 2]))), (true, .cel (.slice ad4 1 1) 1 (bcs ([UInt8.ofNat 3]))), (true, .cel (.slice ad6 2 2) 2 ([.slice ad2 1 1, .slice ad4 1 1])), (true, .bys ([.slice ad2 1 1, .slice ad4 1 1]) ([[UInt8.ofNat 2], [UInt8.ofNat 3]])), (true, .cel (.slice none 0 0) 0 ([])), (true, .bys ([]) ([])), (true, .cel (.slice ad10 (([[UInt8.ofNat 5]]).length) cp11) (([[UInt8.ofNat 5]]).length) vs12), (true, .cel (.slice ad13 (([]).length) cp14) (([]).length) us15), (true, .bys (vs12 ++ us15 ++ ([])) (([[UInt8.ofNat 5]]) ++ ([]) ++ ([]))), (true, .bys vs12 ([[UInt8.ofNat 5]])), (true, .bys us15 ([])), (true, .cel (.slice al20 (([UInt8.ofNat 5]).length) cl21) (([UInt8.ofNat 5]).length) (bcs ([UInt8.ofNat 5]))), (true, .cel (.slice none 0 0) 0 ([])), (true, .bys ([]) ([])), (true, .cel (.slice none 0 0) 0 ([])), (true, .bys ([]) ([])), (true, .cel (.slice ad26 (([]).length) cp27) (([]).length) vs28), (true, .cel (.slice ad29 (([]).length) cp30) (([]).length) us31), (true, .bys (vs28 ++ us31 ++ ([])) (([]) ++ ([]) ++ ([]))), (true, .bys vs28 ([])), (true, .bys us31 ([])), (true, .cel (.slice ad37 1 1) 1 (bcs ([UInt8.ofNat 1]))), (true, .cel (.slice ad39 1 1) 1 (bcs ([UInt8.ofNat 2]))), (true, .cel (.slice ad41 2 2) 2 ([.slice ad37 1 1, .slice ad39 1 1])), (true, .bys ([.slice ad37 1 1, .slice ad39 1 1]) ([[UInt8.ofNat 1], [UInt8.ofNat 2]])), (true, .cel (.slice none 0 0) 0 ([])), (true, .bys ([]) ([])), (true, .cel (.slice ad45 (([[UInt8.ofNat 1, UInt8.ofNat 2]]).length) cp46) (([[UInt8.ofNat 1, UInt8.ofNat 2]]).length) vs47), (true, .cel (.slice ad48 (([]).length) cp49) (([]).length) us50), (true, .bys (vs47 ++ us50 ++ ([])) (([[UInt8.ofNat 1, UInt8.ofNat 2]]) ++ ([]) ++ ([]))), (true, .bys vs47 ([[UInt8.ofNat 1, UInt8.ofNat 2]])), (true, .bys us50 ([]))], Z, noX⟩ [(0, true, .bool false), (1, true, .pointer (some ⟨g17, 0, none⟩)), (2, true, .int .i64 0), (4, true, .int .i64 10), (21, true, .slice ad37 1 1), (22, true, .slice ad39 1 1), (23, true, .slice ad41 2 2), (24, true, .agg #[.slice ad41 2 2, .slice none 0 0]), (25, true, .tuple #[.agg #[.slice ad45 (([[UInt8.ofNat 1, UInt8.ofNat 2]]).length) cp46, .slice ad48 (([]).length) cp49], .int .i64 0]), (20, true, .tuple #[.agg #[.slice ad45 (([[UInt8.ofNat 1, UInt8.ofNat 2]]).length) cp46, .slice ad48 (([]).length) cp49], .int .i64 0]), (26, true, .agg #[.slice ad45 (([[UInt8.ofNat 1, UInt8.ofNat 2]]).length) cp46, .slice ad48 (([]).length) cp49]), (27, true, .int .i64 0), (5, true, .pointer (some ⟨g52, 0, none⟩)), (6, true, .int .i64 0)] [(true, g17, 24, [.slice ad10 (([[UInt8.ofNat 5]]).length) cp11, .slice ad13 (([]).length) cp14]), (true, g33, 24, [.slice ad26 (([]).length) cp27, .slice ad29 (([]).length) cp30]), (true, g52, 24, [.slice ad45 (([[UInt8.ofNat 1, UInt8.ofNat 2]]).length) cp46, .slice ad48 (([]).length) cp49])] ac _ := hs.re ⟨rfl, rfl, rfl, rfl, rfl, rfl, rfl, rfl, rfl, rfl, rfl, rfl, rfl, rfl, trivial⟩
  obtain ⟨al55, cl56, hv57⟩ := bysv_at (l := [UInt8.ofNat 1, UInt8.ofNat 2]) (i := 0) (hs.all (k := 30) rfl rfl) rfl
  replace hs := hs.pick none 30 (i := 0) (l := [UInt8.ofNat 1, UInt8.ofNat 2]) rfl hv57 rfl rfl
  refine then_n ?_
  refine wp_seq ?_
  refine wp_region_lit ?_
  refine lstep (wpO_plain rfl (op_move hs none rfl rfl rfl rfl fun ac hs => ?_))
  refine lstep (wpO_plain rfl (op_bin hs none (v := .bool true) rfl rfl rfl rfl (fun _ => rfl) (fun _ => by kernel_rfl) rfl fun ac hs => ?_))
  refine lstep (wpO_plain rfl (op_move hs none rfl rfl rfl rfl fun ac hs => ?_))
  refine lstep (wpO_in hs rfl rfl rfl (op_fieldA hs none rfl rfl rfl Try.underlying24 rfl Try.sizeOf22 (by decide) rfl fun ac hs => ?_))
  refine lstep (wpO_in hs rfl rfl rfl (op_load hs none 0 (v := .slice ad10 (([[UInt8.ofNat 5]]).length) cp11) rfl rfl rfl rfl Try.isAgg22 Try.sizeOf22 rfl rfl fun ac hs => ?_))
  refine lstep (wpO_in hs rfl rfl rfl (op_blt hs none (v := .int .i64 ((([[UInt8.ofNat 5]]).length : Nat) : Int)) rfl rfl rfl (blt_len Try.underlying22) rfl fun ac hs => ?_))
  refine lstep (wpO_in hs rfl rfl rfl (op_bin hs none (v := .bool true) rfl rfl rfl rfl (fun _ => rfl) (fun w => dT rfl (bin_eqlN (x := ([[UInt8.ofNat 5]]).length) (y := 1) w)) rfl fun ac hs => ?_))
  refine lstep (wpO_plain rfl (op_pickT hs none rfl rfl rfl rfl rfl fun ac hs => ?_))
  refine lstep (wpO_plain rfl (op_move hs none rfl rfl rfl rfl fun ac hs => ?_))
  refine lstep (wpO_in hs rfl rfl rfl (op_fieldA hs none rfl rfl rfl Try.underlying24 rfl Try.sizeOf22 (by decide) rfl fun ac hs => ?_))
  refine lstep (wpO_in hs rfl rfl rfl (op_load hs none 0 (v := .slice ad10 (([[UInt8.ofNat 5]]).length) cp11) rfl rfl rfl rfl Try.isAgg22 Try.sizeOf22 rfl rfl fun ac hs => ?_))
  refine lstep (wpO_in hs rfl rfl rfl (op_idxC hs none 6 (j := 0) rfl rfl rfl rfl rfl Try.underlying22 Try.sizeOf34 (show 0 < ([[UInt8.ofNat 5]]).length by first | omega | ((try simp only [List.length_drop, List.length_take, List.length_append, List.length_cons, List.length_nil]); omega)) (off := 0) (by omega) rfl fun ac hs => ?_))
  refine lstep (wpO_in hs rfl rfl rfl (op_loadC hs none 6 (u := .slice al20 (([UInt8.ofNat 5]).length) cl21) rfl rfl rfl rfl Try.isAgg34 Try.sizeOf34 (by decide) hv22 rfl fun ac hs => ?_))
  refine lstep (wpO_in hs rfl rfl rfl (op_convBS hs none 11 rfl rfl rfl rfl rfl Try.underlying34 Try.underlying5 Try.underlying9 rfl fun ac hs => ?_))
  refine lstep (wpO_in hs rfl rfl rfl (op_bin hs none (v := .bool true) rfl rfl rfl rfl (fun _ => rfl) (fun _ => by kernel_rfl) rfl fun ac hs => ?_))
  refine lstep (wpO_plain rfl (op_pickT hs none rfl rfl rfl rfl rfl fun ac hs => ?_))
  refine lstep (wpO_plain rfl (op_move hs none rfl rfl rfl rfl fun ac hs => ?_))
  refine lstep (wpO_in hs rfl rfl rfl (op_move hs none rfl rfl rfl rfl fun ac hs => ?_))
  refine lstep (wpO_in hs rfl rfl rfl (op_bin hs none (v := .bool true) rfl rfl rfl rfl (fun _ => rfl) (fun _ => by kernel_rfl) rfl fun ac hs => ?_))
  refine lstep (wpO_plain rfl (op_pickT hs none rfl rfl rfl rfl rfl fun ac hs => ?_))
  refine lstep (wpO_plain rfl (op_move hs none rfl rfl rfl rfl fun ac hs => ?_))
  refine lstep (wpO_in hs rfl rfl rfl (op_move hs none rfl rfl rfl rfl fun ac hs => ?_))
  refine lstep (wpO_in hs rfl rfl rfl (op_bin hs none (v := .bool true) rfl rfl rfl rfl (fun _ => rfl) (fun _ => by kernel_rfl) rfl fun ac hs => ?_))
  refine lstep (wpO_plain rfl (op_pickT hs none rfl rfl rfl rfl rfl fun ac hs => ?_))
  refine lstep (wpO_plain rfl (op_move hs none rfl rfl rfl rfl fun ac hs => ?_))
  refine lstep (wpO_in hs rfl rfl rfl (op_fieldA hs none rfl rfl rfl Try.underlying24 rfl Try.sizeOf22 (by decide) rfl fun ac hs => ?_))
  refine lstep (wpO_in hs rfl rfl rfl (op_load hs none 2 (v := .slice ad45 (([[UInt8.ofNat 1, UInt8.ofNat 2]]).length) cp46) rfl rfl rfl rfl Try.isAgg22 Try.sizeOf22 rfl rfl fun ac hs => ?_))
  refine lstep (wpO_in hs rfl rfl rfl (op_blt hs none (v := .int .i64 ((([[UInt8.ofNat 1, UInt8.ofNat 2]]).length : Nat) : Int)) rfl rfl rfl (blt_len Try.underlying22) rfl fun ac hs => ?_))
  refine lstep (wpO_in hs rfl rfl rfl (op_bin hs none (v := .bool true) rfl rfl rfl rfl (fun _ => rfl) (fun w => dT rfl (bin_eqlN (x := ([[UInt8.ofNat 1, UInt8.ofNat 2]]).length) (y := 1) w)) rfl fun ac hs => ?_))
  refine lstep (wpO_plain rfl (op_pickT hs none rfl rfl rfl rfl rfl fun ac hs => ?_))
  refine lstep (wpO_plain rfl (op_move hs none rfl rfl rfl rfl fun ac hs => ?_))
  refine lstep (wpO_in hs rfl rfl rfl (op_fieldA hs none rfl rfl rfl Try.underlying24 rfl Try.sizeOf22 (by decide) rfl fun ac hs => ?_))
  refine lstep (wpO_in hs rfl rfl rfl (op_load hs none 2 (v := .slice ad45 (([[UInt8.ofNat 1, UInt8.ofNat 2]]).length) cp46) rfl rfl rfl rfl Try.isAgg22 Try.sizeOf22 rfl rfl fun ac hs => ?_))
  refine lstep (wpO_in hs rfl rfl rfl (op_idxC hs none 27 (j := 0) rfl rfl rfl rfl rfl Try.underlying22 Try.sizeOf34 (show 0 < ([[UInt8.ofNat 1, UInt8.ofNat 2]]).length by first | omega | ((try simp only [List.length_drop, List.length_take, List.length_append, List.length_cons, List.length_nil]); omega)) (off := 0) (by omega) rfl fun ac hs => ?_))
  refine lstep (wpO_in hs rfl rfl rfl (op_loadC hs none 27 (u := .slice al55 (([UInt8.ofNat 1, UInt8.ofNat 2]).length) cl56) rfl rfl rfl rfl Try.isAgg34 Try.sizeOf34 (by decide) hv57 rfl fun ac hs => ?_))
  refine lstep (wpO_in hs rfl rfl rfl (op_convBS hs none 32 rfl rfl rfl rfl rfl Try.underlying34 Try.underlying5 Try.underlying9 rfl fun ac hs => ?_))
  refine lstep (wpO_in hs rfl rfl rfl (op_bin hs none (v := .bool true) rfl rfl rfl rfl (fun _ => rfl) (fun _ => by kernel_rfl) rfl fun ac hs => ?_))
  refine lstep (wpO_plain rfl (op_pickT hs none rfl rfl rfl rfl rfl fun ac hs => ?_))
  refine lstep (wpO_plain rfl (op_assign hs none rfl rfl rfl rfl fun ac hs => ?_))
  refine wpList_nil ?_
  refine then_n ?_
  refine wp_ret ?_
  exact bodyPost_ret (res1 rfl (rv_t hs rfl)) hs.defers ⟨(), rfl, hs.bel rfl, okl0⟩
theorem twice_law (am : Option Addr) (cm : Nat) (vs : List Value) (aa : Option Addr) (ca : Nat) (us : List Value) (ks js : BL) (w0 : World) (Z : Nat → Prop) (hV : CelV w0 Z (.slice am ks.length cm) ks.length vs) (hY : BysV w0 Z vs ks) (hU : CelV w0 Z (.slice aa js.length ca) js.length us) (hX : BysV w0 Z us js): Calls Try.prog 4 #[.agg #[.slice am ks.length cm, .slice aa js.length ca]] w0 fun e w' => Ret w0 Z (ρ := Unit) (fun r => .bool true) (fun r => []) e w' := by
  refine enterS (n := 49) (args := [.agg #[.slice am ks.length cm, .slice aa js.length ca]]) (S := [(true, .cel (.slice am ks.length cm) ks.length vs), (true, .bys vs ks), (true, .cel (.slice aa js.length ca) js.length us), (true, .bys us js)]) (Z := Z) Try.func4 rfl rfl (Nat.le_of_ble_eq_true rfl) (sokC hV (sokC hY (sokC hU (sokC hX sok0)))) rfl fun ac hs => ?_
  refine wp_seq ?_
  refine wp_region_lit ?_
  refine lstep (wpO_plain rfl (op_box hs none none (cs := [.slice am ks.length cm, .slice aa js.length ca]) rfl rfl rfl rfl rfl rfl fun g1 ac w hs => ?_))
  refine lstep (wpO_plain rfl (op_assign hs none rfl rfl rfl rfl fun ac hs => ?_))
  refine wpList_nil ?_
  refine then_n ?_
  refine wp_seq ?_
  refine wp_seq ?_
  refine wp_region_lit ?_
  refine lstep (wpO_plain rfl (op_load hs none 0 (v := .agg #[.slice am ks.length cm, .slice aa js.length ca]) rfl rfl rfl rfl Try.isAgg24 Try.sizeOf24 rfl rfl fun ac hs => ?_))
  obtain ⟨q2, hq2⟩ : ∃ z0, smallS ks js = z0 := ⟨_, rfl⟩
  refine lstep (wpO_plain rfl (op_callV (F := 8) (ρ := Unit) hs none none (v := fun r => .bool q2) (E := fun r => []) (j := 0) rfl rfl rfl rfl (Try.call8 _) (fun hs => small_c am cm vs aa ca us ks js q2 hq2 _ _ (hs.celT (k := 0) rfl) (hs.rowB (k := 1) (G := noX) (.inr rfl)) (hs.celT (k := 2) rfl) (hs.rowB (k := 3) (G := noX) (.inr rfl))) (fun _ => rfl) (fun _ => rfl) rfl rfl fun _ ac w hs => ?_))
  refine lstep (wpO_plain rfl (op_un hs none (v := .bool (!q2)) rfl rfl rfl (fun _ => rfl) rfl fun ac hs => ?_))
  refine wpList_nil ?_
  refine then_n ?_
  refine wp_cond_split (hs.ev rfl) (fun hc => ?_) (fun hc => ?_)
  · skip
    refine wp_seq ?_
    refine wp_region_lit ?_
    refine lstep (wpO_plain rfl (op_callV (F := 9) (ρ := Unit) hs none none (v := fun r => .bool true) (E := fun r => []) (j := 0) rfl rfl rfl rfl (Try.call9 _) (fun hs => alive_c _ _) (fun _ => rfl) (fun _ => rfl) rfl rfl fun _ ac w hs => ?_))
    refine lstep (wpO_plain rfl (op_assign hs none rfl rfl rfl rfl fun ac hs => ?_))
    refine wpList_nil ?_
    refine then_n ?_
    refine wp_ret ?_
    refine then_r ?_
    exact bodyPost_ret (res1 rfl (rv_t hs rfl)) hs.defers ⟨(), rfl, hs.bel rfl, okl0⟩
  · skip
    obtain ⟨ok, oj⟩ := small_ok (hq2.trans (show q2 = true by simpa using hc))
    refine wp_skip ?_
    refine then_n ?_
    refine wp_seq ?_
    refine wp_region_lit ?_
    refine lstep (wpO_plain rfl (op_bsO hs none none (qs := [(0, .int .u8 97)]) (cs := [.int .u8 97]) (cs' := bcs [UInt8.ofNat 97]) rfl rfl rfl rfl Try.underlying34 inf_u8_5 (by decide) (by decide) (fill_one _ _ rfl ) rfl (bcs_cons (by decide) rfl) rfl rfl fun ad4 ac w hs => ?_))
    refine lstep (wpO_plain rfl (op_bsO hs none none (qs := [(0, .int .u8 124), (1, .int .u8 124)]) (cs := [.int .u8 124, .int .u8 124]) (cs' := bcs [UInt8.ofNat 124, UInt8.ofNat 124]) rfl rfl rfl rfl Try.underlying34 inf_u8_5 (by decide) (by decide) (fill_two _ _ _ rfl rfl ) rfl (bcs_cons (by decide) (bcs_cons (by decide) rfl)) rfl rfl fun ad6 ac w hs => ?_))
    refine lstep (wpO_plain rfl (op_bsO hs none none (qs := [(0, .int .u8 114), (1, .int .u8 114)]) (cs := [.int .u8 114, .int .u8 114]) (cs' := bcs [UInt8.ofNat 114, UInt8.ofNat 114]) rfl rfl rfl rfl Try.underlying34 inf_u8_5 (by decide) (by decide) (fill_two _ _ _ rfl rfl ) rfl (bcs_cons (by decide) (bcs_cons (by decide) rfl)) rfl rfl fun ad8 ac w hs => ?_))
    refine lstep (wpO_plain rfl (op_bsO hs none none (qs := [(0, .int .u8 123), (1, .int .u8 123), (2, .int .u8 123)]) (cs := [.int .u8 123, .int .u8 123, .int .u8 123]) (cs' := bcs [UInt8.ofNat 123, UInt8.ofNat 123, UInt8.ofNat 123]) rfl rfl rfl rfl Try.underlying34 inf_u8_5 (by decide) (by decide) (fill_three _ _ _ _ rfl rfl rfl ) rfl (bcs_cons (by decide) (bcs_cons (by decide) (bcs_cons (by decide) rfl))) rfl rfl fun ad10 ac w hs => ?_))
    refine lstep (wpO_plain rfl (op_bsO hs none none (qs := [(0, .int .u8 113), (1, .int .u8 113), (2, .int .u8 113)]) (cs := [.int .u8 113, .int .u8 113, .int .u8 113]) (cs' := bcs [UInt8.ofNat 113, UInt8.ofNat 113, UInt8.ofNat 113]) rfl rfl rfl rfl Try.underlying34 inf_u8_5 (by decide) (by decide) (fill_three _ _ _ _ rfl rfl rfl ) rfl (bcs_cons (by decide) (bcs_cons (by decide) (bcs_cons (by decide) rfl))) rfl rfl fun ad12 ac w hs => ?_))
    refine lstep (wpO_plain rfl (op_bsO hs none none (qs := [(0, .int .u8 107), (1, .int .u8 108)]) (cs := [.int .u8 107, .int .u8 108]) (cs' := bcs [UInt8.ofNat 107, UInt8.ofNat 108]) rfl rfl rfl rfl Try.underlying34 inf_u8_5 (by decide) (by decide) (fill_two _ _ _ rfl rfl ) rfl (bcs_cons (by decide) (bcs_cons (by decide) rfl)) rfl rfl fun ad14 ac w hs => ?_))
    refine lstep (wpO_plain rfl (op_bsO hs none none (qs := [(0, .int .u8 118), (1, .int .u8 117)]) (cs := [.int .u8 118, .int .u8 117]) (cs' := bcs [UInt8.ofNat 118, UInt8.ofNat 117]) rfl rfl rfl rfl Try.underlying34 inf_u8_5 (by decide) (by decide) (fill_two _ _ _ rfl rfl ) rfl (bcs_cons (by decide) (bcs_cons (by decide) rfl)) rfl rfl fun ad16 ac w hs => ?_))
    refine lstep (wpO_plain rfl (op_bsO hs none none (qs := [(0, .int .u8 120), (1, .int .u8 117)]) (cs := [.int .u8 120, .int .u8 117]) (cs' := bcs [UInt8.ofNat 120, UInt8.ofNat 117]) rfl rfl rfl rfl Try.underlying34 inf_u8_5 (by decide) (by decide) (fill_two _ _ _ rfl rfl ) rfl (bcs_cons (by decide) (bcs_cons (by decide) rfl)) rfl rfl fun ad18 ac w hs => ?_))
    refine lstep (wpO_plain rfl (op_bsO hs none none (qs := [(0, .int .u8 110), (1, .int .u8 109)]) (cs := [.int .u8 110, .int .u8 109]) (cs' := bcs [UInt8.ofNat 110, UInt8.ofNat 109]) rfl rfl rfl rfl Try.underlying34 inf_u8_5 (by decide) (by decide) (fill_two _ _ _ rfl rfl ) rfl (bcs_cons (by decide) (bcs_cons (by decide) rfl)) rfl rfl fun ad20 ac w hs => ?_))
    refine lstep (wpO_plain rfl (op_bsO hs none none (qs := [(0, .int .u8 111), (1, .int .u8 109), (2, .int .u8 117)]) (cs := [.int .u8 111, .int .u8 109, .int .u8 117]) (cs' := bcs [UInt8.ofNat 111, UInt8.ofNat 109, UInt8.ofNat 117]) rfl rfl rfl rfl Try.underlying34 inf_u8_5 (by decide) (by decide) (fill_three _ _ _ _ rfl rfl rfl ) rfl (bcs_cons (by decide) (bcs_cons (by decide) (bcs_cons (by decide) rfl))) rfl rfl fun ad22 ac w hs => ?_))
    refine lstep (wpO_plain rfl (op_bsO hs none none (qs := [(0, .int .u8 112), (1, .int .u8 109)]) (cs := [.int .u8 112, .int .u8 109]) (cs' := bcs [UInt8.ofNat 112, UInt8.ofNat 109]) rfl rfl rfl rfl Try.underlying34 inf_u8_5 (by decide) (by decide) (fill_two _ _ _ rfl rfl ) rfl (bcs_cons (by decide) (bcs_cons (by decide) rfl)) rfl rfl fun ad24 ac w hs => ?_))
    refine lstep (wpO_plain rfl (op_bsO hs none none (qs := [(0, .int .u8 130), (1, .int .u8 117)]) (cs := [.int .u8 130, .int .u8 117]) (cs' := bcs [UInt8.ofNat 130, UInt8.ofNat 117]) rfl rfl rfl rfl Try.underlying34 inf_u8_5 (by decide) (by decide) (fill_two _ _ _ rfl rfl ) rfl (bcs_cons (by decide) (bcs_cons (by decide) rfl)) rfl rfl fun ad26 ac w hs => ?_))
    refine lstep (wpO_plain rfl (op_bsO hs none none (qs := [(0, .int .u8 116), (1, .int .u8 117)]) (cs := [.int .u8 116, .int .u8 117]) (cs' := bcs [UInt8.ofNat 116, UInt8.ofNat 117]) rfl rfl rfl rfl Try.underlying34 inf_u8_5 (by decide) (by decide) (fill_two _ _ _ rfl rfl ) rfl (bcs_cons (by decide) (bcs_cons (by decide) rfl)) rfl rfl fun ad28 ac w hs => ?_))
    refine lstep (wpO_plain rfl (op_bsO hs none none (qs := [(0, .int .u8 125), (1, .int .u8 117), (2, .int .u8 124)]) (cs := [.int .u8 125, .int .u8 117, .int .u8 124]) (cs' := bcs [UInt8.ofNat 125, UInt8.ofNat 117, UInt8.ofNat 124]) rfl rfl rfl rfl Try.underlying34 inf_u8_5 (by decide) (by decide) (fill_three _ _ _ _ rfl rfl rfl ) rfl (bcs_cons (by decide) (bcs_cons (by decide) (bcs_cons (by decide) rfl))) rfl rfl fun ad30 ac w hs => ?_))
    refine lstep (wpO_plain rfl (op_bsO hs none none (qs := [(0, .slice ad4 1 1), (1, .slice ad6 2 2), (2, .slice ad8 2 2), (3, .slice ad10 3 3), (4, .slice ad12 3 3), (5, .slice ad14 2 2), (6, .slice ad16 2 2), (7, .slice ad18 2 2), (8, .slice ad20 2 2), (9, .slice ad22 3 3), (10, .slice ad24 2 2), (11, .slice ad26 2 2), (12, .slice ad28 2 2), (13, .slice ad30 3 3)]) (cs := [.slice ad4 1 1, .slice ad6 2 2, .slice ad8 2 2, .slice ad10 3 3, .slice ad12 3 3, .slice ad14 2 2, .slice ad16 2 2, .slice ad18 2 2, .slice ad20 2 2, .slice ad22 3 3, .slice ad24 2 2, .slice ad26 2 2, .slice ad28 2 2, .slice ad30 3 3]) rfl rfl rfl rfl Try.underlying22 inf_slice_34 (by decide) (by decide) (by simp [Instr.fill, Value.cells, show Array.range (14 * 1) = #[0, 1, 2, 3, 4, 5, 6, 7, 8, 9, 10, 11, 12, 13] from Array.ext' (by simp [List.range_succ])]) rfl rfl rfl rfl fun ad32 ac w hs => ?_))
    refine lstep (wpO_plain rfl (op_assign hs none rfl rfl rfl rfl fun ac hs => ?_))
    refine wpList_nil ?_
    replace hs : St 49 ⟨w0, [], [(true, .cel (.slice am ks.length cm) ks.length vs), (true, .bys vs ks), (true, .cel (.slice aa js.length ca) js.length us), (true, .bys us js), (true, .own (.slice ad4 1 1) 5 1 1 (bcs ([UInt8.ofNat 97]))), (true, .own (.slice ad6 2 2) 5 1 2 (bcs ([UInt8.ofNat 124, UInt8.ofNat 124]))), (true, .own (.slice ad8 2 2) 5 1 2 (bcs ([UInt8.ofNat 114, UInt8.ofNat 114]))), (true, .own (.slice ad10 3 3) 5 1 3 (bcs ([UInt8.ofNat 123, UInt8.ofNat 123, UInt8.ofNat 123]))), (true, .own (.slice ad12 3 3) 5 1 3 (bcs ([UInt8.ofNat 113, UInt8.ofNat 113, UInt8.ofNat 113]))), (true, .own (.slice ad14 2 2) 5 1 2 (bcs ([UInt8.ofNat 107, UInt8.ofNat 108]))), (true, .own (.slice ad16 2 2) 5 1 2 (bcs ([UInt8.ofNat 118, UInt8.ofNat 117]))), (true, .own (.slice ad18 2 2) 5 1 2 (bcs ([UInt8.ofNat 120, UInt8.ofNat 117]))), (true, .own (.slice ad20 2 2) 5 1 2 (bcs ([UInt8.ofNat 110, UInt8.ofNat 109]))), (true, .own (.slice ad22 3 3) 5 1 3 (bcs ([UInt8.ofNat 111, UInt8.ofNat 109, UInt8.ofNat 117]))), (true, .own (.slice ad24 2 2) 5 1 2 (bcs ([UInt8.ofNat 112, UInt8.ofNat 109]))), (true, .own (.slice ad26 2 2) 5 1 2 (bcs ([UInt8.ofNat 130, UInt8.ofNat 117]))), (true, .own (.slice ad28 2 2) 5 1 2 (bcs ([UInt8.ofNat 116, UInt8.ofNat 117]))), (true, .own (.slice ad30 3 3) 5 1 3 (bcs ([UInt8.ofNat 125, UInt8.ofNat 117, UInt8.ofNat 124]))), (true, .own (.slice ad32 14 14) 34 1 14 ([.slice ad4 1 1, .slice ad6 2 2, .slice ad8 2 2, .slice ad10 3 3, .slice ad12 3 3, .slice ad14 2 2, .slice ad16 2 2, .slice ad18 2 2, .slice ad20 2 2, .slice ad22 3 3, .slice ad24 2 2, .slice ad26 2 2, .slice ad28 2 2, .slice ad30 3 3]))], Z, noX⟩ [(1, true, .pointer (some ⟨g1, 0, none⟩)), (2, true, .bool false), (11, true, .slice ad4 1 1), (12, true, .slice ad6 2 2), (13, true, .slice ad8 2 2), (14, true, .slice ad10 3 3), (15, true, .slice ad12 3 3), (16, true, .slice ad14 2 2), (17, true, .slice ad16 2 2), (18, true, .slice ad18 2 2), (19, true, .slice ad20 2 2), (20, true, .slice ad22 3 3), (21, true, .slice ad24 2 2), (22, true, .slice ad26 2 2), (23, true, .slice ad28 2 2), (24, true, .slice ad30 3 3), (25, true, .slice ad32 14 14), (3, true, .slice ad32 14 14)] [(true, g1, 24, [.slice am ks.length cm, .slice aa js.length ca])] ac _ := hs.re ⟨rfl, rfl, rfl, rfl, rfl, rfl, rfl, rfl, rfl, rfl, rfl, rfl, rfl, rfl, rfl, rfl, rfl, rfl, trivial⟩
    replace hs := hs.freeze 18 rfl
    replace hs := hs.nilBys none rfl
    replace hs := hs.freeze 4 rfl
    replace hs := hs.snocBys (l := [UInt8.ofNat 97]) (ls' := [[UInt8.ofNat 97]]) 19 4 rfl rfl rfl
    replace hs := hs.freeze 5 rfl
    replace hs := hs.snocBys (l := [UInt8.ofNat 124, UInt8.ofNat 124]) (ls' := [[UInt8.ofNat 97], [UInt8.ofNat 124, UInt8.ofNat 124]]) 19 5 rfl rfl rfl
    replace hs := hs.bysEq 19 (vs' := [.slice ad4 1 1, .slice ad6 2 2]) (ls' := [[UInt8.ofNat 97], [UInt8.ofNat 124, UInt8.ofNat 124]]) rfl rfl rfl
    replace hs : St 49 ⟨w0, [], [(true, .cel (.slice am ks.length cm) ks.length vs), (true, .bys vs ks), (true, .cel (.slice aa js.length ca) js.length us), (true, .bys us js), (true, .cel (.slice ad4 1 1) 1 (bcs ([UInt8.ofNat 97]))), (true, .cel (.slice ad6 2 2) 2 (bcs ([UInt8.ofNat 124, UInt8.ofNat 124]))), (true, .own (.slice ad8 2 2) 5 1 2 (bcs ([UInt8.ofNat 114, UInt8.ofNat 114]))), (true, .own (.slice ad10 3 3) 5 1 3 (bcs ([UInt8.ofNat 123, UInt8.ofNat 123, UInt8.ofNat 123]))), (true, .own (.slice ad12 3 3) 5 1 3 (bcs ([UInt8.ofNat 113, UInt8.ofNat 113, UInt8.ofNat 113]))), (true, .own (.slice ad14 2 2) 5 1 2 (bcs ([UInt8.ofNat 107, UInt8.ofNat 108]))), (true, .own (.slice ad16 2 2) 5 1 2 (bcs ([UInt8.ofNat 118, UInt8.ofNat 117]))), (true, .own (.slice ad18 2 2) 5 1 2 (bcs ([UInt8.ofNat 120, UInt8.ofNat 117]))), (true, .own (.slice ad20 2 2) 5 1 2 (bcs ([UInt8.ofNat 110, UInt8.ofNat 109]))), (true, .own (.slice ad22 3 3) 5 1 3 (bcs ([UInt8.ofNat 111, UInt8.ofNat 109, UInt8.ofNat 117]))), (true, .own (.slice ad24 2 2) 5 1 2 (bcs ([UInt8.ofNat 112, UInt8.ofNat 109]))), (true, .own (.slice ad26 2 2) 5 1 2 (bcs ([UInt8.ofNat 130, UInt8.ofNat 117]))), (true, .own (.slice ad28 2 2) 5 1 2 (bcs ([UInt8.ofNat 116, UInt8.ofNat 117]))), (true, .own (.slice ad30 3 3) 5 1 3 (bcs ([UInt8.ofNat 125, UInt8.ofNat 117, UInt8.ofNat 124]))), (true, .cel (.slice ad32 14 14) 14 ([.slice ad4 1 1, .slice ad6 2 2, .slice ad8 2 2, .slice ad10 3 3, .slice ad12 3 3, .slice ad14 2 2, .slice ad16 2 2, .slice ad18 2 2, .slice ad20 2 2, .slice ad22 3 3, .slice ad24 2 2, .slice ad26 2 2, .slice ad28 2 2, .slice ad30 3 3])), (true, .bys ([.slice ad4 1 1, .slice ad6 2 2]) ([[UInt8.ofNat 97], [UInt8.ofNat 124, UInt8.ofNat 124]]))], Z, noX⟩ [(1, true, .pointer (some ⟨g1, 0, none⟩)), (2, true, .bool false), (11, true, .slice ad4 1 1), (12, true, .slice ad6 2 2), (13, true, .slice ad8 2 2), (14, true, .slice ad10 3 3), (15, true, .slice ad12 3 3), (16, true, .slice ad14 2 2), (17, true, .slice ad16 2 2), (18, true, .slice ad18 2 2), (19, true, .slice ad20 2 2), (20, true, .slice ad22 3 3), (21, true, .slice ad24 2 2), (22, true, .slice ad26 2 2), (23, true, .slice ad28 2 2), (24, true, .slice ad30 3 3), (25, true, .slice ad32 14 14), (3, true, .slice ad32 14 14)] [(true, g1, 24, [.slice am ks.length cm, .slice aa js.length ca])] ac _ := hs.re ⟨rfl, rfl, rfl, rfl, rfl, rfl, rfl, rfl, rfl, rfl, rfl, rfl, rfl, rfl, rfl, rfl, rfl, rfl, trivial⟩
    replace hs := hs.freeze 6 rfl
    replace hs := hs.snocBys (l := [UInt8.ofNat 114, UInt8.ofNat 114]) (ls' := [[UInt8.ofNat 97], [UInt8.ofNat 124, UInt8.ofNat 124], [UInt8.ofNat 114, UInt8.ofNat 114]]) 19 6 rfl rfl rfl
    replace hs := hs.freeze 7 rfl
    replace hs := hs.snocBys (l := [UInt8.ofNat 123, UInt8.ofNat 123, UInt8.ofNat 123]) (ls' := [[UInt8.ofNat 97], [UInt8.ofNat 124, UInt8.ofNat 124], [UInt8.ofNat 114, UInt8.ofNat 114], [UInt8.ofNat 123, UInt8.ofNat 123, UInt8.ofNat 123]]) 19 7 rfl rfl rfl
    replace hs := hs.bysEq 19 (vs' := [.slice ad4 1 1, .slice ad6 2 2, .slice ad8 2 2, .slice ad10 3 3]) (ls' := [[UInt8.ofNat 97], [UInt8.ofNat 124, UInt8.ofNat 124], [UInt8.ofNat 114, UInt8.ofNat 114], [UInt8.ofNat 123, UInt8.ofNat 123, UInt8.ofNat 123]]) rfl rfl rfl
    replace hs : St 49 ⟨w0, [], [(true, .cel (.slice am ks.length cm) ks.length vs), (true, .bys vs ks), (true, .cel (.slice aa js.length ca) js.length us), (true, .bys us js), (true, .cel (.slice ad4 1 1) 1 (bcs ([UInt8.ofNat 97]))), (true, .cel (.slice ad6 2 2) 2 (bcs ([UInt8.ofNat 124, UInt8.ofNat 124]))), (true, .cel (.slice ad8 2 2) 2 (bcs ([UInt8.ofNat 114, UInt8.ofNat 114]))), (true, .cel (.slice ad10 3 3) 3 (bcs ([UInt8.ofNat 123, UInt8.ofNat 123, UInt8.ofNat 123]))), (true, .own (.slice ad12 3 3) 5 1 3 (bcs ([UInt8.ofNat 113, UInt8.ofNat 113, UInt8.ofNat 113]))), (true, .own (.slice ad14 2 2) 5 1 2 (bcs ([UInt8.ofNat 107, UInt8.ofNat 108]))), (true, .own (.slice ad16 2 2) 5 1 2 (bcs ([UInt8.ofNat 118, UInt8.ofNat 117]))), (true, .own (.slice ad18 2 2) 5 1 2 (bcs ([UInt8.ofNat 120, UInt8.ofNat 117]))), (true, .own (.slice ad20 2 2) 5 1 2 (bcs ([UInt8.ofNat 110, UInt8.ofNat 109]))), (true, .own (.slice ad22 3 3) 5 1 3 (bcs ([UInt8.ofNat 111, UInt8.ofNat 109, UInt8.ofNat 117]))), (true, .own (.slice ad24 2 2) 5 1 2 (bcs ([UInt8.ofNat 112, UInt8.ofNat 109]))), (true, .own (.slice ad26 2 2) 5 1 2 (bcs ([UInt8.ofNat 130, UInt8.ofNat 117]))), (true, .own (.slice ad28 2 2) 5 1 2 (bcs ([UInt8.ofNat 116, UInt8.ofNat 117]))), (true, .own (.slice ad30 3 3) 5 1 3 (bcs ([UInt8.ofNat 125, UInt8.ofNat 117, UInt8.ofNat 124]))), (true, .cel (.slice ad32 14 14) 14 ([.slice ad4 1 1, .slice ad6 2 2, .slice ad8 2 2, .slice ad10 3 3, .slice ad12 3 3, .slice ad14 2 2, .slice ad16 2 2, .slice ad18 2 2, .slice ad20 2 2, .slice ad22 3 3, .slice ad24 2 2, .slice ad26 2 2, .slice ad28 2 2, .slice ad30 3 3])), (true, .bys ([.slice ad4 1 1, .slice ad6 2 2, .slice ad8 2 2, .slice ad10 3 3]) ([[UInt8.ofNat 97], [UInt8.ofNat 124, UInt8.ofNat 124], [UInt8.ofNat 114, UInt8.ofNat 114], [UInt8.ofNat 123, UInt8.ofNat 123, UInt8.ofNat 123]]))], Z, noX⟩ [(1, true, .pointer (some ⟨g1, 0, none⟩)), (2, true, .bool false), (11, true, .slice ad4 1 1), (12, true, .slice ad6 2 2), (13, true, .slice ad8 2 2), (14, true, .slice ad10 3 3), (15, true, .slice ad12 3 3), (16, true, .slice ad14 2 2), (17, true, .slice ad16 2 2), (18, true, .slice ad18 2 2), (19, true, .slice ad20 2 2), (20, true, .slice ad22 3 3), (21, true, .slice ad24 2 2), (22, true, .slice ad26 2 2), (23, true, .slice ad28 2 2), (24, true, .slice ad30 3 3), (25, true, .slice ad32 14 14), (3, true, .slice ad32 14 14)] [(true, g1, 24, [.slice am ks.length cm, .slice aa js.length ca])] ac _ := hs.re ⟨rfl, rfl, rfl, rfl, rfl, rfl, rfl, rfl, rfl, rfl, rfl, rfl, rfl, rfl, rfl, rfl, rfl, rfl, trivial⟩
    replace hs := hs.freeze 8 rfl
    replace hs := hs.snocBys (l := [UInt8.ofNat 113, UInt8.ofNat 113, UInt8.ofNat 113]) (ls' := [[UInt8.ofNat 97], [UInt8.ofNat 124, UInt8.ofNat 124], [UInt8.ofNat 114, UInt8.ofNat 114], [UInt8.ofNat 123, UInt8.ofNat 123, UInt8.ofNat 123], [UInt8.ofNat 113, UInt8.ofNat 113, UInt8.ofNat 113]]) 19 8 rfl rfl rfl
    replace hs := hs.freeze 9 rfl
    replace hs := hs.snocBys (l := [UInt8.ofNat 107, UInt8.ofNat 108]) (ls' := [[UInt8.ofNat 97], [UInt8.ofNat 124, UInt8.ofNat 124], [UInt8.ofNat 114, UInt8.ofNat 114], [UInt8.ofNat 123, UInt8.ofNat 123, UInt8.ofNat 123], [UInt8.ofNat 113, UInt8.ofNat 113, UInt8.ofNat 113], [UInt8.ofNat 107, UInt8.ofNat 108]]) 19 9 rfl rfl rfl
    replace hs := hs.bysEq 19 (vs' := [.slice ad4 1 1, .slice ad6 2 2, .slice ad8 2 2, .slice ad10 3 3, .slice ad12 3 3, .slice ad14 2 2]) (ls' := [[UInt8.ofNat 97], [UInt8.ofNat 124, UInt8.ofNat 124], [UInt8.ofNat 114, UInt8.ofNat 114], [UInt8.ofNat 123, UInt8.ofNat 123, UInt8.ofNat 123], [UInt8.ofNat 113, UInt8.ofNat 113, UInt8.ofNat 113], [UInt8.ofNat 107, UInt8.ofNat 108]]) rfl rfl rfl
    replace hs : St 49 ⟨w0, [], [(true, .cel (.slice am ks.length cm) ks.length vs), (true, .bys vs ks), (true, .cel (.slice aa js.length ca) js.length us), (true, .bys us js), (true, .cel (.slice ad4 1 1) 1 (bcs ([UInt8.ofNat 97]))), (true, .cel (.slice ad6 2 2) 2 (bcs ([UInt8.ofNat 124, UInt8.ofNat 124]))), (true, .cel (.slice ad8 2 2) 2 (bcs ([UInt8.ofNat 114, UInt8.ofNat 114]))), (true, .cel (.slice ad10 3 3) 3 (bcs ([UInt8.ofNat 123, UInt8.ofNat 123, UInt8.ofNat 123]))), (true, .cel (.slice ad12 3 3) 3 (bcs ([UInt8.ofNat 113, UInt8.ofNat 113, UInt8.ofNat 113]))), (true, .cel (.slice ad14 2 2) 2 (bcs ([UInt8.ofNat 107, UInt8.ofNat 108]))), (true, .own (.slice ad16 2 2) 5 1 2 (bcs ([UInt8.ofNat 118, UInt8.ofNat 117]))), (true, .own (.slice ad18 2 2) 5 1 2 (bcs ([UInt8.ofNat 120, UInt8.ofNat 117]))), (true, .own (.slice ad20 2 2) 5 1 2 (bcs ([UInt8.ofNat 110, UInt8.ofNat 109]))), (true, .own (.slice ad22 3 3) 5 1 3 (bcs ([UInt8.ofNat 111, UInt8.ofNat 109, UInt8.ofNat 117]))), (true, .own (.slice ad24 2 2) 5 1 2 (bcs ([UInt8.ofNat 112, UInt8.ofNat 109]))), (true, .own (.slice ad26 2 2) 5 1 2 (bcs ([UInt8.ofNat 130, UInt8.ofNat 117]))), (true, .own (.slice ad28 2 2) 5 1 2 (bcs ([UInt8.ofNat 116, UInt8.ofNat 117]))), (true, .own (.slice ad30 3 3) 5 1 3 (bcs ([UInt8.ofNat 125, UInt8.ofNat 117, UInt8.ofNat 124]))), (true, .cel (.slice ad32 14 14) 14 ([.slice ad4 1 1, .slice ad6 2 2, .slice ad8 2 2, .slice ad10 3 3, .slice ad12 3 3, .slice ad14 2 2, .slice ad16 2 2, .slice ad18 2 2, .slice ad20 2 2, .slice ad22 3 3, .slice ad24 2 2, .slice ad26 2 2, .slice ad28 2 2, .slice ad30 3 3])), (true, .bys ([.slice ad4 1 1, .slice ad6 2 2, .slice ad8 2 2, .slice ad10 3 3, .slice ad12 3 3, .slice ad14 2 2]) ([[UInt8.ofNat 97], [UInt8.ofNat 124, UInt8.ofNat 124], [UInt8.ofNat 114, UInt8.ofNat 114], [UInt8.ofNat 123, UInt8.ofNat 123, UInt8.ofNat 123], [UInt8.ofNat 113, UInt8.ofNat 113, UInt8.ofNat 113], [UInt8.ofNat 107, UInt8.ofNat 108]]))], Z, noX⟩ [(1, true, .pointer (some ⟨g1, 0, none⟩)), (2, true, .bool false), (11, true, .slice ad4 1 1), (12, true, .slice ad6 2 2), (13, true, .slice ad8 2 2), (14, true, .slice ad10 3 3), (15, true, .slice ad12 3 3), (16, true, .slice ad14 2 2), (17, true, .slice ad16 2 2), (18, true, .slice ad18 2 2), (19, true, .slice ad20 2 2), (20, true, .slice ad22 3 3), (21, true, .slice ad24 2 2), (22, true, .slice ad26 2 2), (23, true, .slice ad28 2 2), (24, true, .slice ad30 3 3), (25, true, .slice ad32 14 14), (3, true, .slice ad32 14 14)] [(true, g1, 24, [.slice am ks.length cm, .slice aa js.length ca])] ac _ := hs.re ⟨rfl, rfl, rfl, rfl, rfl, rfl, rfl, rfl, rfl, rfl, rfl, rfl, rfl, rfl, rfl, rfl, rfl, rfl, trivial⟩
    replace hs := hs.freeze 10 rfl
    replace hs := hs.snocBys (l := [UInt8.ofNat 118, UInt8.ofNat 117]) (ls' := [[UInt8.ofNat 97], [UInt8.ofNat 124, UInt8.ofNat 124], [UInt8.ofNat 114, UInt8.ofNat 114], [UInt8.ofNat 123, UInt8.ofNat 123, UInt8.ofNat 123], [UInt8.ofNat 113, UInt8.ofNat 113, UInt8.ofNat 113], [UInt8.ofNat 107, UInt8.ofNat 108], [UInt8.ofNat 118, UInt8.ofNat 117]]) 19 10 rfl rfl rfl
    replace hs := hs.freeze 11 rfl
    replace hs := hs.snocBys (l := [UInt8.ofNat 120, UInt8.ofNat 117]) (ls' := [[UInt8.ofNat 97], [UInt8.ofNat 124, UInt8.ofNat 124], [UInt8.ofNat 114, UInt8.ofNat 114], [UInt8.ofNat 123, UInt8.ofNat 123, UInt8.ofNat 123], [UInt8.ofNat 113, UInt8.ofNat 113, UInt8.ofNat 113], [UInt8.ofNat 107, UInt8.ofNat 108], [UInt8.ofNat 118, UInt8.ofNat 117], [UInt8.ofNat 120, UInt8.ofNat 117]]) 19 11 rfl rfl rfl
    replace hs := hs.bysEq 19 (vs' := [.slice ad4 1 1, .slice ad6 2 2, .slice ad8 2 2, .slice ad10 3 3, .slice ad12 3 3, .slice ad14 2 2, .slice ad16 2 2, .slice ad18 2 2]) (ls' := [[UInt8.ofNat 97], [UInt8.ofNat 124, UInt8.ofNat 124], [UInt8.ofNat 114, UInt8.ofNat 114], [UInt8.ofNat 123, UInt8.ofNat 123, UInt8.ofNat 123], [UInt8.ofNat 113, UInt8.ofNat 113, UInt8.ofNat 113], [UInt8.ofNat 107, UInt8.ofNat 108], [UInt8.ofNat 118, UInt8.ofNat 117], [UInt8.ofNat 120, UInt8.ofNat 117]]) rfl rfl rfl
    replace hs : St 49 ⟨w0, [], [(true, .cel (.slice am ks.length cm) ks.length vs), (true, .bys vs ks), (true, .cel (.slice aa js.length ca) js.length us), (true, .bys us js), (true, .cel (.slice ad4 1 1) 1 (bcs ([UInt8.ofNat 97]))), (true, .cel (.slice ad6 2 2) 2 (bcs ([UInt8.ofNat 124, UInt8.ofNat 124]))), (true, .cel (.slice ad8 2 2) 2 (bcs ([UInt8.ofNat 114, UInt8.ofNat 114]))), (true, .cel (.slice ad10 3 3) 3 (bcs ([UInt8.ofNat 123, UInt8.ofNat 123, UInt8.ofNat 123]))), (true, .cel (.slice ad12 3 3) 3 (bcs ([UInt8.ofNat 113, UInt8.ofNat 113, UInt8.ofNat 113]))), (true, .cel (.slice ad14 2 2) 2 (bcs ([UInt8.ofNat 107, UInt8.ofNat 108]))), (true, .cel (.slice ad16 2 2) 2 (bcs ([UInt8.ofNat 118, UInt8.ofNat 117]))), (true, .cel (.slice ad18 2 2) 2 (bcs ([UInt8.ofNat 120, UInt8.ofNat 117]))), (true, .own (.slice ad20 2 2) 5 1 2 (bcs ([UInt8.ofNat 110, UInt8.ofNat 109]))), (true, .own (.slice ad22 3 3) 5 1 3 (bcs ([UInt8.ofNat 111, UInt8.ofNat 109, UInt8.ofNat 117]))), (true, .own (.slice ad24 2 2) 5 1 2 (bcs ([UInt8.ofNat 112, UInt8.ofNat 109]))), (true, .own (.slice ad26 2 2) 5 1 2 (bcs ([UInt8.ofNat 130, UInt8.ofNat 117]))), (true, .own (.slice ad28 2 2) 5 1 2 (bcs ([UInt8.ofNat 116, UInt8.ofNat 117]))), (true, .own (.slice ad30 3 3) 5 1 3 (bcs ([UInt8.ofNat 125, UInt8.ofNat 117, UInt8.ofNat 124]))), (true, .cel (.slice ad32 14 14) 14 ([.slice ad4 1 1, .slice ad6 2 2, .slice ad8 2 2, .slice ad10 3 3, .slice ad12 3 3, .slice ad14 2 2, .slice ad16 2 2, .slice ad18 2 2, .slice ad20 2 2, .slice ad22 3 3, .slice ad24 2 2, .slice ad26 2 2, .slice ad28 2 2, .slice ad30 3 3])), (true, .bys ([.slice ad4 1 1, .slice ad6 2 2, .slice ad8 2 2, .slice ad10 3 3, .slice ad12 3 3, .slice ad14 2 2, .slice ad16 2 2, .slice ad18 2 2]) ([[UInt8.ofNat 97], [UInt8.ofNat 124, UInt8.ofNat 124], [UInt8.ofNat 114, UInt8.ofNat 114], [UInt8.ofNat 123, UInt8.ofNat 123, UInt8.ofNat 123], [UInt8.ofNat 113, UInt8.ofNat 113, UInt8.ofNat 113], [UInt8.ofNat 107, UInt8.ofNat 108], [UInt8.ofNat 118, UInt8.ofNat 117], [UInt8.ofNat 120, UInt8.ofNat 117]]))], Z, noX⟩ [(1, true, .pointer (some ⟨g1, 0, none⟩)), (2, true, .bool false), (11, true, .slice ad4 1 1), (12, true, .slice ad6 2 2), (13, true, .slice ad8 2 2), (14, true, .slice ad10 3 3), (15, true, .slice ad12 3 3), (16, true, .slice ad14 2 2), (17, true, .slice ad16 2 2), (18, true, .slice ad18 2 2), (19, true, .slice ad20 2 2), (20, true, .slice ad22 3 3), (21, true, .slice ad24 2 2), (22, true, .slice ad26 2 2), (23, true, .slice ad28 2 2), (24, true, .slice ad30 3 3), (25, true, .slice ad32 14 14), (3, true, .slice ad32 14 14)] [(true, g1, 24, [.slice am ks.length cm, .slice aa js.length ca])] ac _ := hs.re ⟨rfl, rfl, rfl, rfl, rfl, rfl, rfl, rfl, rfl, rfl, rfl, rfl, rfl, rfl, rfl, rfl, rfl, rfl, trivial⟩
    replace hs := hs.freeze 12 rfl
    replace hs := hs.snocBys (l := [UInt8.ofNat 110, UInt8.ofNat 109]) (ls' := [[UInt8.ofNat 97], [UInt8.ofNat 124, UInt8.ofNat 124], [UInt8.ofNat 114, UInt8.ofNat 114], [UInt8.ofNat 123, UInt8.ofNat 123, UInt8.ofNat 123], [UInt8.ofNat 113, UInt8.ofNat 113, UInt8.ofNat 113], [UInt8.ofNat 107, UInt8.ofNat 108], [UInt8.ofNat 118, UInt8.ofNat 117], [UInt8.ofNat 120, UInt8.ofNat 117], [UInt8.ofNat 110, UInt8.ofNat 109]]) 19 12 rfl rfl rfl
    replace hs := hs.freeze 13 rfl
    replace hs := hs.snocBys (l := [UInt8.ofNat 111, UInt8.ofNat 109, UInt8.ofNat 117]) (ls' := [[UInt8.ofNat 97], [UInt8.ofNat 124, UInt8.ofNat 124], [UInt8.ofNat 114, UInt8.ofNat 114], [UInt8.ofNat 123, UInt8.ofNat 123, UInt8.ofNat 123], [UInt8.ofNat 113, UInt8.ofNat 113, UInt8.ofNat 113], [UInt8.ofNat 107, UInt8.ofNat 108], [UInt8.ofNat 118, UInt8.ofNat 117], [UInt8.ofNat 120, UInt8.ofNat 117], [UInt8.ofNat 110, UInt8.ofNat 109], [UInt8.ofNat 111, UInt8.ofNat 109, UInt8.ofNat 117]]) 19 13 rfl rfl rfl
    replace hs := hs.bysEq 19 (vs' := [.slice ad4 1 1, .slice ad6 2 2, .slice ad8 2 2, .slice ad10 3 3, .slice ad12 3 3, .slice ad14 2 2, .slice ad16 2 2, .slice ad18 2 2, .slice ad20 2 2, .slice ad22 3 3]) (ls' := [[UInt8.ofNat 97], [UInt8.ofNat 124, UInt8.ofNat 124], [UInt8.ofNat 114, UInt8.ofNat 114], [UInt8.ofNat 123, UInt8.ofNat 123, UInt8.ofNat 123], [UInt8.ofNat 113, UInt8.ofNat 113, UInt8.ofNat 113], [UInt8.ofNat 107, UInt8.ofNat 108], [UInt8.ofNat 118, UInt8.ofNat 117], [UInt8.ofNat 120, UInt8.ofNat 117], [UInt8.ofNat 110, UInt8.ofNat 109], [UInt8.ofNat 111, UInt8.ofNat 109, UInt8.ofNat 117]]) rfl rfl rfl
    replace hs : St 49 ⟨w0, [], [(true, .cel (.slice am ks.length cm) ks.length vs), (true, .bys vs ks), (true, .cel (.slice aa js.length ca) js.length us), (true, .bys us js), (true, .cel (.slice ad4 1 1) 1 (bcs ([UInt8.ofNat 97]))), (true, .cel (.slice ad6 2 2) 2 (bcs ([UInt8.ofNat 124, UInt8.ofNat 124]))), (true, .cel (.slice ad8 2 2) 2 (bcs ([UInt8.ofNat 114, UInt8.ofNat 114]))), (true, .cel (.slice ad10 3 3) 3 (bcs ([UInt8.ofNat 123, UInt8.ofNat 123, UInt8.ofNat 123]))), (true, .cel (.slice ad12 3 3) 3 (bcs ([UInt8.ofNat 113, UInt8.ofNat 113, UInt8.ofNat 113]))), (true, .cel (.slice ad14 2 2) 2 (bcs ([UInt8.ofNat 107, UInt8.ofNat 108]))), (true, .cel (.slice ad16 2 2) 2 (bcs ([UInt8.ofNat 118, UInt8.ofNat 117]))), (true, .cel (.slice ad18 2 2) 2 (bcs ([UInt8.ofNat 120, UInt8.ofNat 117]))), (true, .cel (.slice ad20 2 2) 2 (bcs ([UInt8.ofNat 110, UInt8.ofNat 109]))), (true, .cel (.slice ad22 3 3) 3 (bcs ([UInt8.ofNat 111, UInt8.ofNat 109, UInt8.ofNat 117]))), (true, .own (.slice ad24 2 2) 5 1 2 (bcs ([UInt8.ofNat 112, UInt8.ofNat 109]))), (true, .own (.slice ad26 2 2) 5 1 2 (bcs ([UInt8.ofNat 130, UInt8.ofNat 117]))), (true, .own (.slice ad28 2 2) 5 1 2 (bcs ([UInt8.ofNat 116, UInt8.ofNat 117]))), (true, .own (.slice ad30 3 3) 5 1 3 (bcs ([UInt8.ofNat 125, UInt8.ofNat 117, UInt8.ofNat 124]))), (true, .cel (.slice ad32 14 14) 14 ([.slice ad4 1 1, .slice ad6 2 2, .slice ad8 2 2, .slice ad10 3 3, .slice ad12 3 3, .slice ad14 2 2, .slice ad16 2 2, .slice ad18 2 2, .slice ad20 2 2, .slice ad22 3 3, .slice ad24 2 2, .slice ad26 2 2, .slice ad28 2 2, .slice ad30 3 3])), (true, .bys ([.slice ad4 1 1, .slice ad6 2 2, .slice ad8 2 2, .slice ad10 3 3, .slice ad12 3 3, .slice ad14 2 2, .slice ad16 2 2, .slice ad18 2 2, .slice ad20 2 2, .slice ad22 3 3]) ([[UInt8.ofNat 97], [UInt8.ofNat 124, UInt8.ofNat 124], [UInt8.ofNat 114, UInt8.ofNat 114], [UInt8.ofNat 123, UInt8.ofNat 123, UInt8.ofNat 123], [UInt8.ofNat 113, UInt8.ofNat 113, UInt8.ofNat 113], [UInt8.ofNat 107, UInt8.ofNat 108], [UInt8.ofNat 118, UInt8.ofNat 117], [UInt8.ofNat 120, UInt8.ofNat 117], [UInt8.ofNat 110, UInt8.ofNat 109], [UInt8.ofNat 111, UInt8.ofNat 109, UInt8.ofNat 117]]))], Z, noX⟩ [(1, true, .pointer (some ⟨g1, 0, none⟩)), (2, true, .bool false), (11, true, .slice ad4 1 1), (12, true, .slice ad6 2 2), (13, true, .slice ad8 2 2), (14, true, .slice ad10 3 3), (15, true, .slice ad12 3 3), (16, true, .slice ad14 2 2), (17, true, .slice ad16 2 2), (18, true, .slice ad18 2 2), (19, true, .slice ad20 2 2), (20, true, .slice ad22 3 3), (21, true, .slice ad24 2 2), (22, true, .slice ad26 2 2), (23, true, .slice ad28 2 2), (24, true, .slice ad30 3 3), (25, true, .slice ad32 14 14), (3, true, .slice ad32 14 14)] [(true, g1, 24, [.slice am ks.length cm, .slice aa js.length ca])] ac _ := hs.re ⟨rfl, rfl, rfl, rfl, rfl, rfl, rfl, rfl, rfl, rfl, rfl, rfl, rfl, rfl, rfl, rfl, rfl, rfl, trivial⟩
    replace hs := hs.freeze 14 rfl
    replace hs := hs.snocBys (l := [UInt8.ofNat 112, UInt8.ofNat 109]) (ls' := [[UInt8.ofNat 97], [UInt8.ofNat 124, UInt8.ofNat 124], [UInt8.ofNat 114, UInt8.ofNat 114], [UInt8.ofNat 123, UInt8.ofNat 123, UInt8.ofNat 123], [UInt8.ofNat 113, UInt8.ofNat 113, UInt8.ofNat 113], [UInt8.ofNat 107, UInt8.ofNat 108], [UInt8.ofNat 118, UInt8.ofNat 117], [UInt8.ofNat 120, UInt8.ofNat 117], [UInt8.ofNat 110, UInt8.ofNat 109], [UInt8.ofNat 111, UInt8.ofNat 109, UInt8.ofNat 117], [UInt8.ofNat 112, UInt8.ofNat 109]]) 19 14 rfl rfl rfl
    replace hs := hs.freeze 15 rfl
    replace hs := hs.snocBys (l := [UInt8.ofNat 130, UInt8.ofNat 117]) (ls' := [[UInt8.ofNat 97], [UInt8.ofNat 124, UInt8.ofNat 124], [UInt8.ofNat 114, UInt8.ofNat 114], [UInt8.ofNat 123, UInt8.ofNat 123, UInt8.ofNat 123], [UInt8.ofNat 113, UInt8.ofNat 113, UInt8.ofNat 113], [UInt8.ofNat 107, UInt8.ofNat 108], [UInt8.ofNat 118, UInt8.ofNat 117], [UInt8.ofNat 120, UInt8.ofNat 117], [UInt8.ofNat 110, UInt8.ofNat 109], [UInt8.ofNat 111, UInt8.ofNat 109, UInt8.ofNat 117], [UInt8.ofNat 112, UInt8.ofNat 109], [UInt8.ofNat 130, UInt8.ofNat 117]]) 19 15 rfl rfl rfl
    replace hs := hs.bysEq 19 (vs' := [.slice ad4 1 1, .slice ad6 2 2, .slice ad8 2 2, .slice ad10 3 3, .slice ad12 3 3, .slice ad14 2 2, .slice ad16 2 2, .slice ad18 2 2, .slice ad20 2 2, .slice ad22 3 3, .slice ad24 2 2, .slice ad26 2 2]) (ls' := [[UInt8.ofNat 97], [UInt8.ofNat 124, UInt8.ofNat 124], [UInt8.ofNat 114, UInt8.ofNat 114], [UInt8.ofNat 123, UInt8.ofNat 123, UInt8.ofNat 123], [UInt8.ofNat 113, UInt8.ofNat 113, UInt8.ofNat 113], [UInt8.ofNat 107, UInt8.ofNat 108], [UInt8.ofNat 118, UInt8.ofNat 117], [UInt8.ofNat 120, UInt8.ofNat 117], [UInt8.ofNat 110, UInt8.ofNat 109], [UInt8.ofNat 111, UInt8.ofNat 109, UInt8.ofNat 117], [UInt8.ofNat 112, UInt8.ofNat 109], [UInt8.ofNat 130, UInt8.ofNat 117]]) rfl rfl rfl
    replace hs : St 49 ⟨w0, [], [(true, .cel (.slice am ks.length cm) ks.length vs), (true, .bys vs ks), (true, .cel (.slice aa js.length ca) js.length us), (true, .bys us js), (true, .cel (.slice ad4 1 1) 1 (bcs ([UInt8.ofNat 97]))), (true, .cel (.slice ad6 2 2) 2 (bcs ([UInt8.ofNat 124, UInt8.ofNat 124]))), (true, .cel (.slice ad8 2 2) 2 (bcs ([UInt8.ofNat 114, UInt8.ofNat 114]))), (true, .cel (.slice ad10 3 3) 3 (bcs ([UInt8.ofNat 123, UInt8.ofNat 123, UInt8.ofNat 123]))), (true, .cel (.slice ad12 3 3) 3 (bcs ([UInt8.ofNat 113, UInt8.ofNat 113, UInt8.ofNat 113]))), (true, .cel (.slice ad14 2 2) 2 (bcs ([UInt8.ofNat 107, UInt8.ofNat 108]))), (true, .cel (.slice ad16 2 2) 2 (bcs ([UInt8.ofNat 118, UInt8.ofNat 117]))), (true, .cel (.slice ad18 2 2) 2 (bcs ([UInt8.ofNat 120, UInt8.ofNat 117]))), (true, .cel (.slice ad20 2 2) 2 (bcs ([UInt8.ofNat 110, UInt8.ofNat 109]))), (true, .cel (.slice ad22 3 3) 3 (bcs ([UInt8.ofNat 111, UInt8.ofNat 109, UInt8.ofNat 117]))), (true, .cel (.slice ad24 2 2) 2 (bcs ([UInt8.ofNat 112, UInt8.ofNat 109]))), (true, .cel (.slice ad26 2 2) 2 (bcs ([UInt8.ofNat 130, UInt8.ofNat 117]))), (true, .own (.slice ad28 2 2) 5 1 2 (bcs ([UInt8.ofNat 116, UInt8.ofNat 117]))), (true, .own (.slice ad30 3 3) 5 1 3 (bcs ([UInt8.ofNat 125, UInt8.ofNat 117, UInt8.ofNat 124]))), (true, .cel (.slice ad32 14 14) 14 ([.slice ad4 1 1, .slice ad6 2 2, .slice ad8 2 2, .slice ad10 3 3, .slice ad12 3 3, .slice ad14 2 2, .slice ad16 2 2, .slice ad18 2 2, .slice ad20 2 2, .slice ad22 3 3, .slice ad24 2 2, .slice ad26 2 2, .slice ad28 2 2, .slice ad30 3 3])), (true, .bys ([.slice ad4 1 1, .slice ad6 2 2, .slice ad8 2 2, .slice ad10 3 3, .slice ad12 3 3, .slice ad14 2 2, .slice ad16 2 2, .slice ad18 2 2, .slice ad20 2 2, .slice ad22 3 3, .slice ad24 2 2, .slice ad26 2 2]) ([[UInt8.ofNat 97], [UInt8.ofNat 124, UInt8.ofNat 124], [UInt8.ofNat 114, UInt8.ofNat 114], [UInt8.ofNat 123, UInt8.ofNat 123, UInt8.ofNat 123], [UInt8.ofNat 113, UInt8.ofNat 113, UInt8.ofNat 113], [UInt8.ofNat 107, UInt8.ofNat 108], [UInt8.ofNat 118, UInt8.ofNat 117], [UInt8.ofNat 120, UInt8.ofNat 117], [UInt8.ofNat 110, UInt8.ofNat 109], [UInt8.ofNat 111, UInt8.ofNat 109, UInt8.ofNat 117], [UInt8.ofNat 112, UInt8.ofNat 109], [UInt8.ofNat 130, UInt8.ofNat 117]]))], Z, noX⟩ [(1, true, .pointer (some ⟨g1, 0, none⟩)), (2, true, .bool false), (11, true, .slice ad4 1 1), (12, true, .slice ad6 2 2), (13, true, .slice ad8 2 2), (14, true, .slice ad10 3 3), (15, true, .slice ad12 3 3), (16, true, .slice ad14 2 2), (17, true, .slice ad16 2 2), (18, true, .slice ad18 2 2), (19, true, .slice ad20 2 2), (20, true, .slice ad22 3 3), (21, true, .slice ad24 2 2), (22, true, .slice ad26 2 2), (23, true, .slice ad28 2 2), (24, true, .slice ad30 3 3), (25, true, .slice ad32 14 14), (3, true, .slice ad32 14 14)] [(true, g1, 24, [.slice am ks.length cm, .slice aa js.length ca])] ac _ := hs.re ⟨rfl, rfl, rfl, rfl, rfl, rfl, rfl, rfl, rfl, rfl, rfl, rfl, rfl, rfl, rfl, rfl, rfl, rfl, trivial⟩
    replace hs := hs.freeze 16 rfl
    replace hs := hs.snocBys (l := [UInt8.ofNat 116, UInt8.ofNat 117]) (ls' := [[UInt8.ofNat 97], [UInt8.ofNat 124, UInt8.ofNat 124], [UInt8.ofNat 114, UInt8.ofNat 114], [UInt8.ofNat 123, UInt8.ofNat 123, UInt8.ofNat 123], [UInt8.ofNat 113, UInt8.ofNat 113, UInt8.ofNat 113], [UInt8.ofNat 107, UInt8.ofNat 108], [UInt8.ofNat 118, UInt8.ofNat 117], [UInt8.ofNat 120, UInt8.ofNat 117], [UInt8.ofNat 110, UInt8.ofNat 109], [UInt8.ofNat 111, UInt8.ofNat 109, UInt8.ofNat 117], [UInt8.ofNat 112, UInt8.ofNat 109], [UInt8.ofNat 130, UInt8.ofNat 117], [UInt8.ofNat 116, UInt8.ofNat 117]]) 19 16 rfl rfl rfl
    replace hs := hs.freeze 17 rfl
    replace hs := hs.snocBys (l := [UInt8.ofNat 125, UInt8.ofNat 117, UInt8.ofNat 124]) (ls' := [[UInt8.ofNat 97], [UInt8.ofNat 124, UInt8.ofNat 124], [UInt8.ofNat 114, UInt8.ofNat 114], [UInt8.ofNat 123, UInt8.ofNat 123, UInt8.ofNat 123], [UInt8.ofNat 113, UInt8.ofNat 113, UInt8.ofNat 113], [UInt8.ofNat 107, UInt8.ofNat 108], [UInt8.ofNat 118, UInt8.ofNat 117], [UInt8.ofNat 120, UInt8.ofNat 117], [UInt8.ofNat 110, UInt8.ofNat 109], [UInt8.ofNat 111, UInt8.ofNat 109, UInt8.ofNat 117], [UInt8.ofNat 112, UInt8.ofNat 109], [UInt8.ofNat 130, UInt8.ofNat 117], [UInt8.ofNat 116, UInt8.ofNat 117], [UInt8.ofNat 125, UInt8.ofNat 117, UInt8.ofNat 124]]) 19 17 rfl rfl rfl
    replace hs := hs.bysEq 19 (vs' := [.slice ad4 1 1, .slice ad6 2 2, .slice ad8 2 2, .slice ad10 3 3, .slice ad12 3 3, .slice ad14 2 2, .slice ad16 2 2, .slice ad18 2 2, .slice ad20 2 2, .slice ad22 3 3, .slice ad24 2 2, .slice ad26 2 2, .slice ad28 2 2, .slice ad30 3 3]) (ls' := [[UInt8.ofNat 97], [UInt8.ofNat 124, UInt8.ofNat 124], [UInt8.ofNat 114, UInt8.ofNat 114], [UInt8.ofNat 123, UInt8.ofNat 123, UInt8.ofNat 123], [UInt8.ofNat 113, UInt8.ofNat 113, UInt8.ofNat 113], [UInt8.ofNat 107, UInt8.ofNat 108], [UInt8.ofNat 118, UInt8.ofNat 117], [UInt8.ofNat 120, UInt8.ofNat 117], [UInt8.ofNat 110, UInt8.ofNat 109], [UInt8.ofNat 111, UInt8.ofNat 109, UInt8.ofNat 117], [UInt8.ofNat 112, UInt8.ofNat 109], [UInt8.ofNat 130, UInt8.ofNat 117], [UInt8.ofNat 116, UInt8.ofNat 117], [UInt8.ofNat 125, UInt8.ofNat 117, UInt8.ofNat 124]]) rfl rfl rfl
    replace hs : St 49 ⟨w0, [], [(true, .cel (.slice am ks.length cm) ks.length vs), (true, .bys vs ks), (true, .cel (.slice aa js.length ca) js.length us), (true, .bys us js), (true, .cel (.slice ad4 1 1) 1 (bcs ([UInt8.ofNat 97]))), (true, .cel (.slice ad6 2 2) 2 (bcs ([UInt8.ofNat 124, UInt8.ofNat 124]))), (true, .cel (.slice ad8 2 2) 2 (bcs ([UInt8.ofNat 114, UInt8.ofNat 114]))), (true, .cel (.slice ad10 3 3) 3 (bcs ([UInt8.ofNat 123, UInt8.ofNat 123, UInt8.ofNat 123]))), (true, .cel (.slice ad12 3 3) 3 (bcs ([UInt8.ofNat 113, UInt8.ofNat 113, UInt8.ofNat 113]))), (true, .cel (.slice ad14 2 2) 2 (bcs ([UInt8.ofNat 107, UInt8.ofNat 108]))), (true, .cel (.slice ad16 2 2) 2 (bcs ([UInt8.ofNat 118, UInt8.ofNat 117]))), (true, .cel (.slice ad18 2 2) 2 (bcs ([UInt8.ofNat 120, UInt8.ofNat 117]))), (true, .cel (.slice ad20 2 2) 2 (bcs ([UInt8.ofNat 110, UInt8.ofNat 109]))), (true, .cel (.slice ad22 3 3) 3 (bcs ([UInt8.ofNat 111, UInt8.ofNat 109, UInt8.ofNat 117]))), (true, .cel (.slice ad24 2 2) 2 (bcs ([UInt8.ofNat 112, UInt8.ofNat 109]))), (true, .cel (.slice ad26 2 2) 2 (bcs ([UInt8.ofNat 130, UInt8.ofNat 117]))), (true, .cel (.slice ad28 2 2) 2 (bcs ([UInt8.ofNat 116, UInt8.ofNat 117]))), (true, .cel (.slice ad30 3 3) 3 (bcs ([UInt8.ofNat 125, UInt8.ofNat 117, UInt8.ofNat 124]))), (true, .cel (.slice ad32 14 14) 14 ([.slice ad4 1 1, .slice ad6 2 2, .slice ad8 2 2, .slice ad10 3 3, .slice ad12 3 3, .slice ad14 2 2, .slice ad16 2 2, .slice ad18 2 2, .slice ad20 2 2, .slice ad22 3 3, .slice ad24 2 2, .slice ad26 2 2, .slice ad28 2 2, .slice ad30 3 3])), (true, .bys ([.slice ad4 1 1, .slice ad6 2 2, .slice ad8 2 2, .slice ad10 3 3, .slice ad12 3 3, .slice ad14 2 2, .slice ad16 2 2, .slice ad18 2 2, .slice ad20 2 2, .slice ad22 3 3, .slice ad24 2 2, .slice ad26 2 2, .slice ad28 2 2, .slice ad30 3 3]) ([[UInt8.ofNat 97], [UInt8.ofNat 124, UInt8.ofNat 124], [UInt8.ofNat 114, UInt8.ofNat 114], [UInt8.ofNat 123, UInt8.ofNat 123, UInt8.ofNat 123], [UInt8.ofNat 113, UInt8.ofNat 113, UInt8.ofNat 113], [UInt8.ofNat 107, UInt8.ofNat 108], [UInt8.ofNat 118, UInt8.ofNat 117], [UInt8.ofNat 120, UInt8.ofNat 117], [UInt8.ofNat 110, UInt8.ofNat 109], [UInt8.ofNat 111, UInt8.ofNat 109, UInt8.ofNat 117], [UInt8.ofNat 112, UInt8.ofNat 109], [UInt8.ofNat 130, UInt8.ofNat 117], [UInt8.ofNat 116, UInt8.ofNat 117], [UInt8.ofNat 125, UInt8.ofNat 117, UInt8.ofNat 124]]))], Z, noX⟩ [(1, true, .pointer (some ⟨g1, 0, none⟩)), (2, true, .bool false), (11, true, .slice ad4 1 1), (12, true, .slice ad6 2 2), (13, true, .slice ad8 2 2), (14, true, .slice ad10 3 3), (15, true, .slice ad12 3 3), (16, true, .slice ad14 2 2), (17, true, .slice ad16 2 2), (18, true, .slice ad18 2 2), (19, true, .slice ad20 2 2), (20, true, .slice ad22 3 3), (21, true, .slice ad24 2 2), (22, true, .slice ad26 2 2), (23, true, .slice ad28 2 2), (24, true, .slice ad30 3 3), (25, true, .slice ad32 14 14), (3, true, .slice ad32 14 14)] [(true, g1, 24, [.slice am ks.length cm, .slice aa js.length ca])] ac _ := hs.re ⟨rfl, rfl, rfl, rfl, rfl, rfl, rfl, rfl, rfl, rfl, rfl, rfl, rfl, rfl, rfl, rfl, rfl, rfl, trivial⟩
    replace hs := hs.nilCel none rfl
    replace hs := hs.nilBys none rfl
    replace hs : St 49 ⟨w0, [], [(true, .cel (.slice am ks.length cm) ks.length vs), (true, .bys vs ks), (true, .cel (.slice aa js.length ca) js.length us), (true, .bys us js), (true, .cel (.slice ad4 1 1) 1 (bcs ([UInt8.ofNat 97]))), (true, .cel (.slice ad6 2 2) 2 (bcs ([UInt8.ofNat 124, UInt8.ofNat 124]))), (true, .cel (.slice ad8 2 2) 2 (bcs ([UInt8.ofNat 114, UInt8.ofNat 114]))), (true, .cel (.slice ad10 3 3) 3 (bcs ([UInt8.ofNat 123, UInt8.ofNat 123, UInt8.ofNat 123]))), (true, .cel (.slice ad12 3 3) 3 (bcs ([UInt8.ofNat 113, UInt8.ofNat 113, UInt8.ofNat 113]))), (true, .cel (.slice ad14 2 2) 2 (bcs ([UInt8.ofNat 107, UInt8.ofNat 108]))), (true, .cel (.slice ad16 2 2) 2 (bcs ([UInt8.ofNat 118, UInt8.ofNat 117]))), (true, .cel (.slice ad18 2 2) 2 (bcs ([UInt8.ofNat 120, UInt8.ofNat 117]))), (true, .cel (.slice ad20 2 2) 2 (bcs ([UInt8.ofNat 110, UInt8.ofNat 109]))), (true, .cel (.slice ad22 3 3) 3 (bcs ([UInt8.ofNat 111, UInt8.ofNat 109, UInt8.ofNat 117]))), (true, .cel (.slice ad24 2 2) 2 (bcs ([UInt8.ofNat 112, UInt8.ofNat 109]))), (true, .cel (.slice ad26 2 2) 2 (bcs ([UInt8.ofNat 130, UInt8.ofNat 117]))), (true, .cel (.slice ad28 2 2) 2 (bcs ([UInt8.ofNat 116, UInt8.ofNat 117]))), (true, .cel (.slice ad30 3 3) 3 (bcs ([UInt8.ofNat 125, UInt8.ofNat 117, UInt8.ofNat 124]))), (true, .cel (.slice ad32 14 14) 14 ([.slice ad4 1 1, .slice ad6 2 2, .slice ad8 2 2, .slice ad10 3 3, .slice ad12 3 3, .slice ad14 2 2, .slice ad16 2 2, .slice ad18 2 2, .slice ad20 2 2, .slice ad22 3 3, .slice ad24 2 2, .slice ad26 2 2, .slice ad28 2 2, .slice ad30 3 3])), (true, .bys ([.slice ad4 1 1, .slice ad6 2 2, .slice ad8 2 2, .slice ad10 3 3, .slice ad12 3 3, .slice ad14 2 2, .slice ad16 2 2, .slice ad18 2 2, .slice ad20 2 2, .slice ad22 3 3, .slice ad24 2 2, .slice ad26 2 2, .slice ad28 2 2, .slice ad30 3 3]) ([[UInt8.ofNat 97], [UInt8.ofNat 124, UInt8.ofNat 124], [UInt8.ofNat 114, UInt8.ofNat 114], [UInt8.ofNat 123, UInt8.ofNat 123, UInt8.ofNat 123], [UInt8.ofNat 113, UInt8.ofNat 113, UInt8.ofNat 113], [UInt8.ofNat 107, UInt8.ofNat 108], [UInt8.ofNat 118, UInt8.ofNat 117], [UInt8.ofNat 120, UInt8.ofNat 117], [UInt8.ofNat 110, UInt8.ofNat 109], [UInt8.ofNat 111, UInt8.ofNat 109, UInt8.ofNat 117], [UInt8.ofNat 112, UInt8.ofNat 109], [UInt8.ofNat 130, UInt8.ofNat 117], [UInt8.ofNat 116, UInt8.ofNat 117], [UInt8.ofNat 125, UInt8.ofNat 117, UInt8.ofNat 124]])), (true, .cel (.slice none 0 0) 0 ([])), (true, .bys ([]) ([]))], Z, noX⟩ [(1, true, .pointer (some ⟨g1, 0, none⟩)), (2, true, .bool false), (11, true, .slice ad4 1 1), (12, true, .slice ad6 2 2), (13, true, .slice ad8 2 2), (14, true, .slice ad10 3 3), (15, true, .slice ad12 3 3), (16, true, .slice ad14 2 2), (17, true, .slice ad16 2 2), (18, true, .slice ad18 2 2), (19, true, .slice ad20 2 2), (20, true, .slice ad22 3 3), (21, true, .slice ad24 2 2), (22, true, .slice ad26 2 2), (23, true, .slice ad28 2 2), (24, true, .slice ad30 3 3), (25, true, .slice ad32 14 14), (3, true, .slice ad32 14 14)] [(true, g1, 24, [.slice am ks.length cm, .slice aa js.length ca])] ac _ := hs.re ⟨rfl, rfl, rfl, rfl, rfl, rfl, rfl, rfl, rfl, rfl, rfl, rfl, rfl, rfl, rfl, rfl, rfl, rfl, trivial⟩
    replace hs := hs.bysEq 19 (ls' := twRows) rfl rfl rfl
    obtain ⟨rowv, hrowv⟩ : ∃ z, ([.slice ad4 1 1, .slice ad6 2 2, .slice ad8 2 2, .slice ad10 3 3, .slice ad12 3 3, .slice ad14 2 2, .slice ad16 2 2, .slice ad18 2 2, .slice ad20 2 2, .slice ad22 3 3, .slice ad24 2 2, .slice ad26 2 2, .slice ad28 2 2, .slice ad30 3 3] : List Value) = z := ⟨_, rfl⟩
    rw [hrowv] at hs
    refine then_n ?_
    refine wp_seq ?_
    refine wp_seq ?_
    refine wp_region_lit ?_
    refine lstep (wpO_plain rfl (op_assign hs none rfl rfl rfl rfl fun ac hs => ?_))
    refine wpList_nil ?_
    refine then_n ?_
    refine wp_block ?_
    refine wp_loop_m (fun μ ac w => ∃ (i : Nat), (14 - i) = μ ∧ (i ≤ 14) ∧ St 49 ⟨w0, [], [(true, .cel (.slice am ks.length cm) ks.length vs), (true, .bys vs ks), (true, .cel (.slice aa js.length ca) js.length us), (true, .bys us js), (true, .cel (.slice ad32 14 14) 14 rowv), (true, .bys rowv twRows)], Z, noX⟩ [(1, true, .pointer (some ⟨g1, 0, none⟩)), (2, true, .bool false), (3, true, .slice ad32 14 14), (4, true, .int .i64 ((i : Nat) : Int))] [(true, g1, 24, [.slice am ks.length cm, .slice aa js.length ca])] ac w) ?_ ?_
    replace hs := hs.selS [0, 1, 2, 3, 18, 19] rfl (by decide)
    · exact ⟨_, 0, rfl, (by omega), (hs.re (fs' := [(1, true, .pointer (some ⟨g1, 0, none⟩)), (2, true, .bool false), (3, true, .slice ad32 14 14), (4, true, .int .i64 ((0 : Nat) : Int))]) ⟨rfl, rfl, rfl, rfl, trivial⟩)⟩
    intro μ ac w ⟨i, hμ, hi, hs⟩
    refine wp_seq ?_
    refine wp_seq ?_
    refine wp_region_lit ?_
    refine lstep (wpO_plain rfl (op_move hs none rfl rfl rfl rfl fun ac hs => ?_))
    refine lstep (wpO_plain rfl (op_move hs none rfl rfl rfl rfl fun ac hs => ?_))
    refine lstep (wpO_plain rfl (op_blt hs none (v := .int .i64 14) rfl rfl rfl (blt_len Try.underlying22) rfl fun ac hs => ?_))
    refine lstep (wpO_plain rfl (op_bin hs none (v := .bool (decide (i < 14))) rfl rfl rfl rfl (fun _ => rfl) (bin_lssN (x := i) (y := 14)) rfl fun ac hs => ?_))
    refine wpList_nil ?_
    refine then_n ?_
    refine wp_cond_split (hs.ev rfl) (fun hc => ?_) (fun hc => ?_)
    · skip
      have hp33 := of_decide_eq_true hc
      have hlt := of_decide_eq_true hc
      obtain ⟨rr, hrr⟩ : ∃ z, twRows[i]? = some z := ⟨_, List.getElem?_eq_getElem (show i < twRows.length from hlt)⟩
      obtain ⟨al, cl, hvl⟩ := bysv_at (hs.all (k := 5) rfl rfl) hrr
      replace hs := hs.pick none 5 rfl hvl hrr rfl
      refine wp_skip ?_
      refine then_n ?_
      refine wp_seq ?_
      refine wp_block ?_
      refine wp_seq ?_
      replace hs : St 49 ⟨w0, [], [(true, .cel (.slice am ks.length cm) ks.length vs), (true, .bys vs ks), (true, .cel (.slice aa js.length ca) js.length us), (true, .bys us js), (true, .cel (.slice ad32 14 14) 14 rowv), (true, .bys rowv twRows), (true, .cel (.slice al rr.length cl) rr.length (bcs rr))], Z, noX⟩ [(1, true, .pointer (some ⟨g1, 0, none⟩)), (2, true, .bool false), (3, true, .slice ad32 14 14), (4, true, .int .i64 ((i : Nat) : Int))] [(true, g1, 24, [.slice am ks.length cm, .slice aa js.length ca])] ac _ := hs.re ⟨rfl, rfl, rfl, rfl, trivial⟩
      obtain ⟨ks34, js35, q36, hks34⟩ : ∃ z0 z1 z2, timesL rr ks js = (z0, z1, z2) := ⟨_, _, _, rfl⟩
      refine region_inv [([], [5, 6, 7, 8, 10, 11]), ([], [3, 4, 5, 6, 7, 8, 10, 11]), ([], [3, 4, 5, 6, 7, 8, 10, 11]), ([1, 2], [4, 5, 6, 7, 8, 10, 11]), ([1, 2, 3], [5, 6, 7, 8, 10, 11]), ([0, 1, 2, 3, 4], [6, 7, 8, 10, 11]), ([0, 1, 2, 3, 4, 5], [7, 8, 10, 11]), ([0, 1, 2, 3, 4, 5, 6], [10, 11]), ([0, 1, 2, 3, 4, 5, 6], [11]), ([], [10, 11]), ([0, 1, 2, 3, 4, 5, 6, 7, 9], [11]), ([0, 1, 2, 3, 4, 5, 6, 7, 8, 9, 10], [])] (fun L ac w => ∃ (g44 : Nat) (ad37 : Option Addr) (cp38 : Nat) (vs39 : List Value) (ad40 : Option Addr) (cp41 : Nat) (us42 : List Value) (G43 : Nat → Prop), St 49 ⟨w0, [], [(true, .cel (.slice am ks.length cm) ks.length vs), (true, .bys vs ks), (true, .cel (.slice aa js.length ca) js.length us), (true, .bys us js), (true, .cel (.slice ad32 14 14) 14 rowv), (true, .bys rowv twRows), (true, .cel (.slice al rr.length cl) rr.length (bcs rr)), (L 5, .cel (.slice ad37 ks34.length cp38) ks34.length vs39), (L 5, .bys vs39 ks34), (L 5, .cel (.slice ad40 js35.length cp41) js35.length us42), (L 5, .bys us42 js35)], Z, noX⟩ [(33, L 0, .agg #[.slice am ks.length cm, .slice aa js.length ca]), (34, L 1, .slice ad32 14 14), (35, L 2, .int .i64 ((i : Nat) : Int)), (36, L 3, vidx (.slice ad32 14 14) i), (37, L 4, .slice al rr.length cl), (38, L 5, .tuple #[.agg #[.slice ad37 ks34.length cp38, .slice ad40 js35.length cp41], .bool q36]), (32, L 6, cond (L 6) (.tuple #[.agg #[.slice ad37 ks34.length cp38, .slice ad40 js35.length cp41], .bool q36]) undef), (39, L 7, cond (L 7) (.agg #[.slice ad37 ks34.length cp38, .slice ad40 js35.length cp41]) undef), (40, L 8, .bool q36), (5, L 9, .pointer (some ⟨g44, 0, none⟩)), (6, L 11, .bool q36), (1, true, .pointer (some ⟨g1, 0, none⟩)), (2, true, .bool false), (3, true, .slice ad32 14 14), (4, true, .int .i64 ((i : Nat) : Int))] [(true, g1, 24, [.slice am ks.length cm, .slice aa js.length ca]), (L 9, g44, 24, (cond (L 10) [.slice ad37 ks34.length cp38, .slice ad40 js35.length cp41] [.slice none 0 0, .slice none 0 0]))] ac w) (by kernel_rfl) (by kernel_rfl) ?_ ?_ ?_
      · exact ⟨0, none, 0, [], none, 0, [], noX, hs.drew.skip.skip.skip.skip.skip.skip.skip.skip.skip.skip.skip.pad.padS.padS.padS.padS⟩
      · refine ⟨?_, ?_, ?_, ?_, ?_, ?_, ?_, ?_, ?_, ?_, ?_, ?_, trivial⟩
        · intro L ac w hJ
          obtain ⟨g44, ad37, cp38, vs39, ad40, cp41, us42, G43, hs⟩ := hJ
          refine wpO_plain rfl (op_load hs (some 0) 0 (v := .agg #[.slice am ks.length cm, .slice aa js.length ca]) rfl rfl rfl rfl Try.isAgg24 Try.sizeOf24 rfl rfl fun ac hs => ?_)
          exact ⟨g44, ad37, cp38, vs39, ad40, cp41, us42, G43, hs⟩
        · intro L ac w hJ
          obtain ⟨g44, ad37, cp38, vs39, ad40, cp41, us42, G43, hs⟩ := hJ
          refine wpO_plain rfl (op_move hs (some 1) rfl rfl rfl rfl fun ac hs => ?_)
          exact ⟨g44, ad37, cp38, vs39, ad40, cp41, us42, G43, hs⟩
        · intro L ac w hJ
          obtain ⟨g44, ad37, cp38, vs39, ad40, cp41, us42, G43, hs⟩ := hJ
          refine wpO_plain rfl (op_move hs (some 2) rfl rfl rfl rfl fun ac hs => ?_)
          exact ⟨g44, ad37, cp38, vs39, ad40, cp41, us42, G43, hs⟩
        · intro L ac w hJ
          obtain ⟨g44, ad37, cp38, vs39, ad40, cp41, us42, G43, hs⟩ := hJ
          refine wpO_plain rfl (op_idxC hs (some 3) 4 (j := i) rfl rfl rfl rfl rfl Try.underlying22 Try.sizeOf34 (show i < 14 by omega) (off := i) (by omega) rfl fun ac hs => ?_)
          exact ⟨g44, ad37, cp38, vs39, ad40, cp41, us42, G43, hs⟩
        · intro L ac w hJ
          obtain ⟨g44, ad37, cp38, vs39, ad40, cp41, us42, G43, hs⟩ := hJ
          refine wpO_plain rfl (op_loadC hs (some 4) 4 (u := .slice al rr.length cl) rfl rfl rfl rfl Try.isAgg34 Try.sizeOf34 (by decide) hvl rfl fun ac hs => ?_)
          exact ⟨g44, ad37, cp38, vs39, ad40, cp41, us42, G43, hs⟩
        · intro L ac w hJ
          obtain ⟨g44, ad37, cp38, vs39, ad40, cp41, us42, G43, hs⟩ := hJ
          refine wpO_plain rfl (op_callX (F := 15) (ρ := M2) hs (some 5) (some 7) [] [0, 1, 2, 3, 6] (v := fun r => .tuple #[.agg #[.slice r.a ks34.length r.c, .slice r.b js35.length r.d], .bool q36]) (S1 := [(true, .cel (.slice am ks.length cm) ks.length vs), (true, .bys vs ks), (true, .cel (.slice aa js.length ca) js.length us), (true, .bys us js), (true, .cel (.slice al rr.length cl) rr.length (bcs rr))]) (bs1 := []) (E := fun r => [(true, .cel (.slice am ks.length cm) ks.length vs), (true, .bys vs ks), (true, .cel (.slice aa js.length ca) js.length us), (true, .bys us js), (true, .cel (.slice al rr.length cl) rr.length (bcs rr)), (true, .cel (.slice r.a ks34.length r.c) ks34.length r.vs), (true, .bys r.vs ks34), (true, .cel (.slice r.b js35.length r.d) js35.length r.us), (true, .bys r.us js35)]) (E1 := fun r => [(true, .cel (.slice am ks.length cm) ks.length vs), (true, .bys vs ks), (true, .cel (.slice aa js.length ca) js.length us), (true, .bys us js), (true, .cel (.slice al rr.length cl) rr.length (bcs rr))]) (E2 := fun r => [.cel (.slice r.a ks34.length r.c) ks34.length r.vs, .bys r.vs ks34, .cel (.slice r.b js35.length r.d) js35.length r.us, .bys r.us js35]) (bfA := fun r => []) (bf := fun r => []) (bf2 := fun r => []) rfl rfl rfl rfl rfl (Try.call15 _) rfl rfl (by decide) (by decide) (fun Z X hm => times_c am cm vs aa ca us ks js al cl rr ks34 js35 q36 (ok.mono (by decide)) (oj.mono (by decide)) hks34 _ _ _ hm) (fun _ => rfl) (fun _ => rfl) (fun _ => rfl) (fun _ => rfl) (fun _ => rfl) rfl fun ⟨ad37, cp38, vs39, ad40, cp41, us42, G43⟩ ac w hs => ?_)
          exact ⟨g44, ad37, cp38, vs39, ad40, cp41, us42, G43, hs⟩
        · intro L ac w hJ
          obtain ⟨g44, ad37, cp38, vs39, ad40, cp41, us42, G43, hs⟩ := hJ
          refine wpO_plain rfl (op_move hs (some 6) rfl rfl rfl rfl fun ac hs => ?_)
          exact ⟨g44, ad37, cp38, vs39, ad40, cp41, us42, G43, hs⟩
        · intro L ac w hJ
          obtain ⟨g44, ad37, cp38, vs39, ad40, cp41, us42, G43, hs⟩ := hJ
          refine wpO_plain rfl (op_extract hs (some 7) rfl rfl rfl rfl rfl fun ac hs => ?_)
          exact ⟨g44, ad37, cp38, vs39, ad40, cp41, us42, G43, hs⟩
        · intro L ac w hJ
          obtain ⟨g44, ad37, cp38, vs39, ad40, cp41, us42, G43, hs⟩ := hJ
          refine wpO_plain rfl (op_extract hs (some 8) rfl rfl rfl rfl rfl fun ac hs => ?_)
          exact ⟨g44, ad37, cp38, vs39, ad40, cp41, us42, G43, hs⟩
        · intro L ac w hJ
          obtain ⟨g44, ad37, cp38, vs39, ad40, cp41, us42, G43, hs⟩ := hJ
          refine wpO_plain rfl (op_alloc hs (some 9) (some 1) (cs := [.slice none 0 0, .slice none 0 0]) rfl rfl Try.zeroValue24 (by kernel_rfl) rfl rfl fun g44 ac w hs => ?_)
          exact ⟨g44, ad37, cp38, vs39, ad40, cp41, us42, G43, hs⟩
        · intro L ac w hJ
          obtain ⟨g44, ad37, cp38, vs39, ad40, cp41, us42, G43, hs⟩ := hJ
          refine wpO_plain rfl (op_store hs 1 (vs := [.slice ad37 ks34.length cp38, .slice ad40 js35.length cp41]) rfl rfl rfl rfl rfl Try.sizeOf24 rfl rfl rfl rfl rfl fun w hs => ?_)
          exact ⟨g44, ad37, cp38, vs39, ad40, cp41, us42, G43, hs⟩
        · intro L ac w hJ
          obtain ⟨g44, ad37, cp38, vs39, ad40, cp41, us42, G43, hs⟩ := hJ
          refine wpO_plain rfl (op_assign hs (some 10) rfl rfl rfl rfl fun ac hs => ?_)
          exact ⟨g44, ad37, cp38, vs39, ad40, cp41, us42, G43, hs⟩
      intro ac w hJ
      obtain ⟨g44, ad37, cp38, vs39, ad40, cp41, us42, G43, hs⟩ := hJ
      replace hs : St 49 ⟨w0, [], [(true, .cel (.slice am ks.length cm) ks.length vs), (true, .bys vs ks), (true, .cel (.slice aa js.length ca) js.length us), (true, .bys us js), (true, .cel (.slice ad32 14 14) 14 rowv), (true, .bys rowv twRows), (true, .cel (.slice al rr.length cl) rr.length (bcs rr)), (true, .cel (.slice ad37 ks34.length cp38) ks34.length vs39), (true, .bys vs39 ks34), (true, .cel (.slice ad40 js35.length cp41) js35.length us42), (true, .bys us42 js35)], Z, noX⟩ [(33, true, .agg #[.slice am ks.length cm, .slice aa js.length ca]), (34, true, .slice ad32 14 14), (35, true, .int .i64 ((i : Nat) : Int)), (36, true, vidx (.slice ad32 14 14) i), (37, true, .slice al rr.length cl), (38, true, .tuple #[.agg #[.slice ad37 ks34.length cp38, .slice ad40 js35.length cp41], .bool q36]), (32, true, .tuple #[.agg #[.slice ad37 ks34.length cp38, .slice ad40 js35.length cp41], .bool q36]), (39, true, .agg #[.slice ad37 ks34.length cp38, .slice ad40 js35.length cp41]), (40, true, .bool q36), (5, true, .pointer (some ⟨g44, 0, none⟩)), (6, true, .bool q36), (1, true, .pointer (some ⟨g1, 0, none⟩)), (2, true, .bool false), (3, true, .slice ad32 14 14), (4, true, .int .i64 ((i : Nat) : Int))] [(true, g1, 24, [.slice am ks.length cm, .slice aa js.length ca]), (true, g44, 24, [.slice ad37 ks34.length cp38, .slice ad40 js35.length cp41])] ac w := hs
      refine then_n ?_
      refine wp_seq ?_
      by_cases hq45 : q36 = true
      · skip
        replace hs := hs.re (fs' := [(1, true, .pointer (some ⟨g1, 0, none⟩)), (2, true, .bool false), (3, true, .slice ad32 14 14), (4, true, .int .i64 ((i : Nat) : Int)), (33, true, .agg #[.slice am ks.length cm, .slice aa js.length ca]), (34, true, .slice ad32 14 14), (35, true, .int .i64 ((i : Nat) : Int)), (36, true, vidx (.slice ad32 14 14) i), (37, true, .slice al rr.length cl), (38, true, .tuple #[.agg #[.slice ad37 ks34.length cp38, .slice ad40 js35.length cp41], .bool q36]), (32, true, .tuple #[.agg #[.slice ad37 ks34.length cp38, .slice ad40 js35.length cp41], .bool q36]), (39, true, .agg #[.slice ad37 ks34.length cp38, .slice ad40 js35.length cp41]), (40, true, .bool q36), (5, true, .pointer (some ⟨g44, 0, none⟩)), (6, true, .bool true)]) ⟨rfl, rfl, rfl, rfl, rfl, rfl, rfl, rfl, rfl, rfl, rfl, rfl, rfl, rfl, congrArg some (congrArg Value.bool hq45), trivial⟩
        have htw := twice hrr (hks34.trans (by rw [hq45]))
        refine wp_region_lit ?_
        refine lstep (wpO_plain rfl (op_move hs none rfl rfl rfl rfl fun ac hs => ?_))
        refine lstep (wpO_plain rfl (op_move hs none rfl rfl rfl rfl fun ac hs => ?_))
        refine lstep (wpO_in hs rfl rfl rfl (op_load hs none 1 (v := .agg #[.slice ad37 ks34.length cp38, .slice ad40 js35.length cp41]) rfl rfl rfl rfl Try.isAgg24 Try.sizeOf24 rfl rfl fun ac hs => ?_))
        refine lstep (wpO_in hs rfl rfl rfl (op_load hs none 0 (v := .agg #[.slice am ks.length cm, .slice aa js.length ca]) rfl rfl rfl rfl Try.isAgg24 Try.sizeOf24 rfl rfl fun ac hs => ?_))
        refine lstep (wpO_in hs rfl rfl rfl (op_callV (F := 13) (ρ := Unit) hs none none (v := fun r => .bool true) (E := fun r => []) (j := 0) rfl rfl rfl rfl (Try.call13 _) (fun hs => same2_c ad37 cp38 vs39 ks34 ad40 cp41 us42 js35 am cm vs ks aa ca us js true (decide_eq_true htw) _ _ (hs.celT (k := 7) rfl) (hs.rowB (k := 8) (G := noX) (.inr rfl)) (hs.celT (k := 9) rfl) (hs.rowB (k := 10) (G := noX) (.inr rfl)) (hs.celT (k := 0) rfl) (hs.rowB (k := 1) (G := noX) (.inr rfl)) (hs.celT (k := 2) rfl) (hs.rowB (k := 3) (G := noX) (.inr rfl))) (fun _ => rfl) (fun _ => rfl) rfl rfl fun _ ac w hs => ?_))
        refine lstep (wpO_in hs rfl rfl rfl (op_un hs none (v := .bool false) rfl rfl rfl (fun _ => rfl) rfl fun ac hs => ?_))
        refine lstep (wpO_plain rfl (op_pickT hs none rfl rfl rfl rfl rfl fun ac hs => ?_))
        refine wpList_nil ?_
        refine then_n ?_
        refine wp_cond_false (hs.ev rfl) ?_
        refine wp_skip ?_
        refine blk_n ?_
        refine then_n ?_
        replace hs : St 49 ⟨w0, [], [(true, .cel (.slice am ks.length cm) ks.length vs), (true, .bys vs ks), (true, .cel (.slice aa js.length ca) js.length us), (true, .bys us js), (true, .cel (.slice ad32 14 14) 14 rowv), (true, .bys rowv twRows), (true, .cel (.slice al rr.length cl) rr.length (bcs rr)), (true, .cel (.slice ad37 ks34.length cp38) ks34.length vs39), (true, .bys vs39 ks34), (true, .cel (.slice ad40 js35.length cp41) js35.length us42), (true, .bys us42 js35)], Z, noX⟩ [(1, true, .pointer (some ⟨g1, 0, none⟩)), (2, true, .bool false), (3, true, .slice ad32 14 14), (4, true, .int .i64 ((i : Nat) : Int))] [(true, g1, 24, [.slice am ks.length cm, .slice aa js.length ca]), (true, g44, 24, [.slice ad37 ks34.length cp38, .slice ad40 js35.length cp41])] ac _ := hs.re ⟨rfl, rfl, rfl, rfl, trivial⟩
        refine wp_region_lit ?_
        refine lstep (wpO_plain rfl (op_move hs none rfl rfl rfl rfl fun ac hs => ?_))
        refine lstep (wpO_plain rfl (op_bin hs none (v := .int .i64 ((i + 1 : Nat) : Int)) rfl rfl rfl rfl (fun _ => rfl) (bin_addN (x := i) (y := 1) (z := i + 1) rfl (show i + 1 < 9223372036854775808 by omega)) rfl fun ac hs => ?_))
        refine lstep (wpO_plain rfl (op_assign hs none rfl rfl rfl rfl fun ac hs => ?_))
        refine wpList_nil ?_
        refine then_n ?_
        replace hs := (hs.takeb 1).selS [0, 1, 2, 3, 4, 5] rfl (by decide)
        exact ⟨_, ⟨(i + 1), rfl, (by omega), (hs.re (fs' := [(1, true, .pointer (some ⟨g1, 0, none⟩)), (2, true, .bool false), (3, true, .slice ad32 14 14), (4, true, .int .i64 (((i + 1) : Nat) : Int))]) ⟨rfl, rfl, rfl, rfl, trivial⟩)⟩, (by omega)⟩
      · skip
        replace hs := hs.re (fs' := [(1, true, .pointer (some ⟨g1, 0, none⟩)), (2, true, .bool false), (3, true, .slice ad32 14 14), (4, true, .int .i64 ((i : Nat) : Int)), (33, true, .agg #[.slice am ks.length cm, .slice aa js.length ca]), (34, true, .slice ad32 14 14), (35, true, .int .i64 ((i : Nat) : Int)), (36, true, vidx (.slice ad32 14 14) i), (37, true, .slice al rr.length cl), (38, true, .tuple #[.agg #[.slice ad37 ks34.length cp38, .slice ad40 js35.length cp41], .bool q36]), (32, true, .tuple #[.agg #[.slice ad37 ks34.length cp38, .slice ad40 js35.length cp41], .bool q36]), (39, true, .agg #[.slice ad37 ks34.length cp38, .slice ad40 js35.length cp41]), (40, true, .bool q36), (5, true, .pointer (some ⟨g44, 0, none⟩)), (6, true, .bool false)]) ⟨rfl, rfl, rfl, rfl, rfl, rfl, rfl, rfl, rfl, rfl, rfl, rfl, rfl, rfl, congrArg some (congrArg Value.bool (Bool.eq_false_iff.2 hq45)), trivial⟩
        refine wp_region_lit ?_
        refine lstep (wpO_plain rfl (op_move hs none rfl rfl rfl rfl fun ac hs => ?_))
        refine lstep (wpO_plain rfl (op_move hs none rfl rfl rfl rfl fun ac hs => ?_))
        refine lstep (wpO_out hs none rfl rfl (.inl rfl) rfl rfl fun ac hs => ?_)
        refine lstep (wpO_out hs none rfl rfl (.inl rfl) rfl rfl fun ac hs => ?_)
        refine lstep (wpO_out hs none rfl rfl (.inl rfl) rfl rfl fun ac hs => ?_)
        refine lstep (wpO_out hs none rfl rfl (.inl rfl) rfl rfl fun ac hs => ?_)
        refine lstep (wpO_plain rfl (op_pickF hs none rfl rfl rfl rfl rfl fun ac hs => ?_))
        refine wpList_nil ?_
        refine then_n ?_
        refine wp_cond_false (hs.ev rfl) ?_
        refine wp_skip ?_
        refine blk_n ?_
        refine then_n ?_
        refine wp_region_lit ?_
        refine lstep (wpO_plain rfl (op_move hs none rfl rfl rfl rfl fun ac hs => ?_))
        refine lstep (wpO_plain rfl (op_bin hs none (v := .int .i64 ((i + 1 : Nat) : Int)) rfl rfl rfl rfl (fun _ => rfl) (bin_addN (x := i) (y := 1) (z := i + 1) rfl (show i + 1 < 9223372036854775808 by omega)) rfl fun ac hs => ?_))
        refine lstep (wpO_plain rfl (op_assign hs none rfl rfl rfl rfl fun ac hs => ?_))
        refine wpList_nil ?_
        refine then_n ?_
        replace hs := (hs.takeb 1).selS [0, 1, 2, 3, 4, 5] rfl (by decide)
        exact ⟨_, ⟨(i + 1), rfl, (by omega), (hs.re (fs' := [(1, true, .pointer (some ⟨g1, 0, none⟩)), (2, true, .bool false), (3, true, .slice ad32 14 14), (4, true, .int .i64 (((i + 1) : Nat) : Int))]) ⟨rfl, rfl, rfl, rfl, trivial⟩)⟩, (by omega)⟩
    · skip
      have hp46 := of_decide_eq_false hc
      refine wp_exit ?_
      refine then_e ?_
      refine then_e ?_
      refine blk_e ?_
      refine then_n ?_
      refine wp_seq ?_
      refine wp_region_lit ?_
      refine lstep (wpO_plain rfl (op_callV (F := 9) (ρ := Unit) hs none none (v := fun r => .bool true) (E := fun r => []) (j := 0) rfl rfl rfl rfl (Try.call9 _) (fun hs => alive_c _ _) (fun _ => rfl) (fun _ => rfl) rfl rfl fun _ ac w hs => ?_))
      refine lstep (wpO_plain rfl (op_assign hs none rfl rfl rfl rfl fun ac hs => ?_))
      refine wpList_nil ?_
      refine then_n ?_
      refine wp_ret ?_
      exact bodyPost_ret (res1 rfl (rv_t hs rfl)) hs.defers ⟨(), rfl, hs.bel rfl, okl0⟩
end Go.Proofs.Ytikkhkjndbicgaa

/- Arguments opened, and read again behind a call that writes nothing that was there: lemmas of whatever program. -/
namespace Go.Proofs.Ytikkhkjndbicgaa
open Go.ChangeShapes Go.WideShapes Go.ChangeAt Go.RowKit
section
variable {H : Type} {enc : TypeId × Value → H} {P : Program}
theorem trodAll_below (hl : laidOutB P = true) {W W' : World} (hb : Below W.heap.size W W') : ∀ (ts : List TypeId) (vs : List Value) (ds : List (DataW H)) (ps : List MemPlace),
    ts.all (fun t => P.readableRec t && decide (t < P.types.size)) = true → DataW.TrodAll enc P W 0 (fun _ => true) true ts vs ds ps → DataW.TrodAll enc P W' 0 (fun b => decide (b < W.heap.size)) true ts vs ds ps := by
  intro ts
  induction ts with
  | nil =>
    intro vs ds ps _ h
    obtain ⟨rfl, rfl, rfl⟩ := trodAll_nil h
    exact trodAll_mk0
  | cons t ts ih =>
    intro vs ds ps hts h
    obtain ⟨v, vs0, d, ds0, p, q, rfl, rfl, rfl, h0, r0⟩ := trodAll_cons h
    simp only [List.all_cons, Bool.and_eq_true, decide_eq_true_eq] at hts
    obtain ⟨⟨hr, ht⟩, hts⟩ := hts
    have lt0 : ∀ x ∈ p, x.block < W.heap.size := by obtain ⟨m, hm⟩ := h0; exact DataW.trod_lt m _ _ _ hm
    exact trodAll_cons_mk (Below.trod hl hr ht h0 hb lt0) (ih _ _ _ hts r0)
end
def RdN (w : World) (a : Option Addr) (l : List UInt8) : Prop :=
  l.length ≠ 0 → ∃ b off, a = some ⟨b, off, none⟩ ∧ ∀ k, k < l.length → w.cell? ⟨b, off + k, none⟩ = some (.int .u8 ((l.getD k 0).toNat : Int))
end Go.Proofs.Ytikkhkjndbicgaa

/- Arguments that lie in memory, opened as entries: byte strings, rows. -/
namespace Go.Proofs.Ytikkhkjndbicgaa
open Go.ChangeShapes Go.WideShapes Go.ChangeAt Go.RowKit
section
variable {H : Type} {enc : TypeId × Value → H} {P : Program} {w : World} {base : Nat} {sp : Nat → Bool} {held : Bool}
theorem trod_bytes {t e : TypeId} {m : Nat} {cs : List Value} {x : DataW H × List MemPlace} (ht : P.underlying t = some (.slice e)) (he : P.underlying e = some (.int .u8)) (hc : P.cellsOf e = 1)
    (h : DataW.trod enc P w base sp held m t cs = some x) : ∃ a c l, cs = [.slice a l.length c] ∧ ByV w (fun _ => True) (.slice a l.length c) l := by
  rcases open_ints ht he hc h with ⟨rfl, _⟩ | ⟨x, len, c, zs, rfl, _, hl, hm, hz, _, hcell, hwz⟩
  · exact ⟨none, 0, [], rfl, celv_nil⟩
  · have hzl : len ≤ zs.length := by rw [hz]; split <;> omega
    have hlen : ((zs.take len).map fun z => UInt8.ofNat z.toNat).length = len := by simp; omega
    refine ⟨some x, c, (zs.take len).map fun z => UInt8.ofNat z.toNat, by rw [hlen], ⟨some x, c, by rw [hlen], by rw [hlen]; exact hl, hm, (fun h => by cases h), fun j u hu => ?_⟩⟩
    have hj : j < len := by
      have := (List.getElem?_eq_some_iff.1 hu).1
      rw [bcs_length, hlen] at this; exact this
    obtain ⟨b, off, rfl, hcc⟩ := ints_at hcell (by omega)
    refine ⟨b, off, rfl, trivial, ?_⟩
    have hjz : j < zs.length := by omega
    rw [hcc j hjz]
    have hb := bounds_u8 (hwz _ (List.getElem_mem hjz))
    rw [bcs_get (by rw [hlen]; exact hj)] at hu
    have e1 : ((byt ((zs.take len).map fun z => UInt8.ofNat z.toNat) j : Nat) : Int) = zs[j] := by
      unfold byt
      rw [List.getD_eq_getElem?_getD, List.getElem?_map, List.getElem?_take_of_lt hj, List.getElem?_eq_getElem hjz]
      simp
      omega
    rw [e1] at hu
    rw [← hu]
    simp [List.getD, hjz]
theorem choose_list {α : Type} (n : Nat) (R : Nat → α → Prop) (h : ∀ i, i < n → ∃ x, R i x) : ∃ l : List α, l.length = n ∧ ∀ i x, l[i]? = some x → R i x := by
  induction n with
  | zero => exact ⟨[], rfl, fun i x hx => by simp at hx⟩
  | succ n ih =>
    obtain ⟨l, hl, hr⟩ := ih fun i hi => h i (by omega)
    obtain ⟨x, hx⟩ := h n (by omega)
    refine ⟨l ++ [x], by simp [hl], fun i y hy => ?_⟩
    by_cases hi : i < n
    · rw [List.getElem?_append_left (by omega)] at hy; exact hr i y hy
    · have := (List.getElem?_eq_some_iff.1 hy).1
      simp at this
      obtain rfl : i = n := by omega
      rw [List.getElem?_append_right (by omega), hl] at hy
      simp at hy
      subst hy; exact hx
theorem cell_spot {a : Addr} {v : Value} (h : w.cell? a = some v) : ∃ b off, a = ⟨b, off, none⟩ := by
  obtain ⟨b, off, spot⟩ := a
  have hspot : spot = none := World.cell?_spot h
  subst hspot
  exact ⟨b, off, rfl⟩
theorem trod_row {t e : TypeId} {m z : Nat} {cs : List Value} {x : DataW H × List MemPlace} (ht : P.underlying t = some (.slice e)) (hz : P.cellsOf e = z)
    (h : DataW.trod enc P w base sp held m t cs = some x) : ∃ a len c, cs = [.slice a len c] ∧ len ≤ c ∧ c ≤ maxLen ∧ (a = none → c = 0) ∧
      ∀ i, i < len → ∃ ad n ys y, a = some ad ∧ ys.length = z ∧ (∀ j, j < z → w.cell? (ad.add (i * z + j)) = ys[j]?) ∧ DataW.trod enc P w base sp held n e ys = some y := by
  rcases DataW.trod_slice ht h with ⟨rfl, _⟩ | ⟨a, len, cap, elems, rest, n, _, rfl, _, hb, hl, hm, hlen, hel, _, _⟩
  · exact ⟨none, 0, 0, rfl, Nat.le_refl _, Nat.zero_le _, fun _ => rfl, fun i hi => absurd hi (by omega)⟩
  · refine ⟨some a, len, cap, rfl, hl, hm, (fun h => by cases h), fun i hi => ?_⟩
    have h1 := hel i hi
    rw [List.getElem?_eq_getElem (by omega), hz, Option.bind_eq_some_iff] at h1
    obtain ⟨ys, hys, hy⟩ := h1
    obtain ⟨_, h2, h3⟩ := World.cells?_some hys
    refine ⟨a, n, ys, _, rfl, h2, fun j hj => ?_, hy⟩
    rw [← h3 j hj, Addr.add_add]
end
end Go.Proofs.Ytikkhkjndbicgaa

/- Arguments that are stacks, opened. -/
namespace Go.Proofs.Ytikkhkjndbicgaa
open Go.ChangeShapes Go.WideShapes Go.ChangeAt Go.RowKit
section
variable {H : Type} {enc : TypeId × Value → H} {w : World} {base : Nat} {sp : Nat → Bool} {held : Bool}
theorem trod_bys {m : Nat} {cs : List Value} {x : DataW H × List MemPlace} (h : DataW.trod enc Try.prog w base sp held m 22 cs = some x) :
    ∃ (a : Option Addr) (c : Nat) (vs : List Value) (ks : List (List UInt8)), cs = [.slice a ks.length c] ∧ CelV w (fun _ => True) (.slice a ks.length c) ks.length vs ∧ BysV w (fun _ => True) vs ks := by
  obtain ⟨a, len, c, h1, hl, hm, hn, hr⟩ := trod_row (z := 1) Try.underlying22 (by kernel_rfl) h
  have hr2 : ∀ i, i < len → ∃ x : Value × List UInt8, ByV w (fun _ => True) x.1 x.2 ∧ ∃ ad, a = some ad ∧ w.cell? (ad.add i) = some x.1 := by
    intro i hi
    obtain ⟨ad, n, ys, y, ha, hy, hc, ht⟩ := hr i hi
    obtain ⟨b, cc, l, rfl, h3⟩ := trod_bytes Try.underlying34 Try.underlying5 (by kernel_rfl) ht
    have h4 := hc 0 (by omega)
    rw [Nat.mul_one, Nat.add_zero] at h4
    exact ⟨(.slice b l.length cc, l), h3, ad, ha, h4⟩
  obtain ⟨ts, hlen, hts⟩ := choose_list len _ hr2
  refine ⟨a, c, ts.map (·.1), ts.map (·.2), by simp [hlen, h1], ⟨a, c, rfl, by simpa [hlen] using hl, hm, hn, fun j u hu => ?_⟩, ⟨by simp, fun i v l hv hl2 => ?_⟩⟩
  · rw [List.getElem?_map, Option.map_eq_some_iff] at hu
    obtain ⟨x, hx, rfl⟩ := hu
    obtain ⟨_, ad, rfl, h2⟩ := hts j x hx
    have hlen0 : 0 < ts.length := by have := (List.getElem?_eq_some_iff.1 hx).1; omega
    obtain ⟨_, ad', e, h4⟩ := hts 0 _ (List.getElem?_eq_getElem hlen0)
    obtain rfl := Option.some.inj e
    have h5 : w.cell? ad = some ts[0].1 := by simpa [Addr.add] using h4
    obtain ⟨b, off, rfl⟩ := cell_spot h5
    rw [Addr.add_mid] at h2
    exact ⟨b, off, rfl, trivial, h2⟩
  · rw [List.getElem?_map, Option.map_eq_some_iff] at hv
    obtain ⟨x, hx, rfl⟩ := hv
    rw [List.getElem?_map, hx] at hl2
    obtain rfl : x.2 = l := by simpa using hl2
    exact (hts i x hx).1
theorem trod_stk {m : Nat} {cs : List Value} {x : DataW H × List MemPlace} (h : DataW.trod enc Try.prog w base sp held m 24 cs = some x) :
    ∃ (a : Option Addr) (c : Nat) (vs : List Value) (ks : List (List UInt8)) (b : Option Addr) (d : Nat) (us : List Value) (js : List (List UInt8)), cs = [.slice a ks.length c, .slice b js.length d] ∧ CelV w (fun _ => True) (.slice a ks.length c) ks.length vs ∧ BysV w (fun _ => True) vs ks ∧ CelV w (fun _ => True) (.slice b js.length d) js.length us ∧ BysV w (fun _ => True) us js := by
  cases m with
  | zero => simp [DataW.trod] at h
  | succ m =>
    rw [DataW.trod_step] at h
    unfold DataW.trodStep at h
    have c0 : Try.prog.cellsOf 24 = 2 := by kernel_rfl
    have c1 : Try.prog.cellsOf 22 = 1 := by kernel_rfl
    simp only [Try.underlying24, c0] at h
    split at h
    · rename_i hl
      simp only [Option.map_eq_some_iff, List.mapM_cons, List.mapM_nil, bind, Option.bind_eq_some_iff, pure, Option.some.injEq] at h
      obtain ⟨ys, ⟨y0, h0, ys1, ⟨y1, h1, _⟩, _⟩, _⟩ := h
      rw [c1] at h0 h1
      obtain ⟨a, c, vs, ks, hq, hv, hy⟩ := trod_bys h0
      obtain ⟨b, d, us, js, hr, hu, hx⟩ := trod_bys h1
      refine ⟨a, c, vs, ks, b, d, us, js, ?_, hv, hy, hu, hx⟩
      match cs, hl with
      | [u, v], _ =>
        simp at hq hr
        rw [hq, hr]
    · cases h
set_option maxRecDepth 100000 in
theorem open_stacks {v : Value} {d : DataW H} {ps : List MemPlace} (hval : Value.okWide Try.prog w .any 0 24 v) (hd : DataW.Trod enc Try.prog w base sp held 24 v d ps) :
    ∃ (a : Option Addr) (c : Nat) (vs : List Value) (b : Option Addr) (d : Nat) (us : List Value) (ks js : List (List UInt8)), v = .agg #[.slice a ks.length c, .slice b js.length d] ∧ CelV w (fun _ => True) (.slice a ks.length c) ks.length vs ∧ BysV w (fun _ => True) vs ks ∧ CelV w (fun _ => True) (.slice b js.length d) js.length us ∧ BysV w (fun _ => True) us js := by
  have hu : ∃ fs, Try.prog.underlying 24 = some (.struct fs) := ⟨_, Try.underlying24⟩
  obtain ⟨fs, hu⟩ := hu
  obtain ⟨xs, rfl, _⟩ := okWide_struct hu hval
  obtain ⟨fuel, hf⟩ := hd
  obtain ⟨a, c, vs, ks, b, d, us, js, h1, h2⟩ := trod_stk hf
  exact ⟨a, c, vs, b, d, us, ks, js, congrArg Value.agg (Array.toList_inj.1 h1), h2⟩
end
end Go.Proofs.Ytikkhkjndbicgaa
