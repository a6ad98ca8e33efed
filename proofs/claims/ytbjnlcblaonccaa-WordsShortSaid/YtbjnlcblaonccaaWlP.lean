/- Words of scripts: there and back, only so, shortest. Plain law, no program here. -/
import Derived.Test.YtbjnlcblaonccaaWd2P
namespace Go.Proofs.Ytbjnlcblaonccaa
theorem byt_zero (x : UInt8) (l : List UInt8) : byt (x :: l) 0 = x.toNat := rfl
theorem byt_succ (x : UInt8) (l : List UInt8) (i : Nat) : byt (x :: l) (i + 1) = byt l i := rfl
theorem ofN {o : Nat} (h : o < 256) : (UInt8.ofNat o).toNat = o := by simp; omega
theorem nx1_lay {o : Nat} {p : List UInt8} (ho : o < 256) (hq : layQ o p = true) (r : List UInt8) : nx1 (layB o p ++ r) = some (o, p, (layB o p).length) := by
  by_cases h : 0 < o ∧ o ≤ 75
  · obtain ⟨e1, e2⟩ := layB_1 (p := p) h.1 h.2
    rw [e2] at hq
    have hq := of_decide_eq_true hq
    rw [e1]
    have e0 : byt ([UInt8.ofNat o] ++ p ++ r) 0 = o := ofN ho
    have ht := tld_1 (b := [UInt8.ofNat o] ++ p ++ r) (by rw [e0]; exact h.1) (by rw [e0]; exact h.2)
    rw [e0] at ht
    rw [nx1_yes ht (by simp; omega), e0]
    simp [hq]; omega
  · by_cases h2 : o = 76
    · obtain ⟨e1, e2⟩ := layB_2 (p := p) h2
      rw [e2] at hq
      have hq := of_decide_eq_true hq
      rw [e1]
      have e0 : byt ([UInt8.ofNat o, UInt8.ofNat (p.length % 256)] ++ p ++ r) 0 = o := ofN ho
      have e3 : byt ([UInt8.ofNat o, UInt8.ofNat (p.length % 256)] ++ p ++ r) 1 = p.length := by
        show (UInt8.ofNat (p.length % 256)).toNat = p.length
        rw [ofN (by omega)]; omega
      have ht := tld_2 (b := [UInt8.ofNat o, UInt8.ofNat (p.length % 256)] ++ p ++ r) (by rw [e0]; exact h2) (by simp)
      rw [e3] at ht
      rw [nx1_yes ht (by simp), e0]
      simp; omega
    · by_cases h3 : o = 77
      · obtain ⟨e1, e2⟩ := layB_3 (p := p) h3
        rw [e2] at hq
        have hq := of_decide_eq_true hq
        rw [e1]
        have e0 : byt ([UInt8.ofNat o, UInt8.ofNat (p.length % 256), UInt8.ofNat (p.length / 2 ^ 8 % 256)] ++ p ++ r) 0 = o := ofN ho
        have e3 : byt ([UInt8.ofNat o, UInt8.ofNat (p.length % 256), UInt8.ofNat (p.length / 2 ^ 8 % 256)] ++ p ++ r) 1 = p.length % 256 := ofN (by omega)
        have e4 : byt ([UInt8.ofNat o, UInt8.ofNat (p.length % 256), UInt8.ofNat (p.length / 2 ^ 8 % 256)] ++ p ++ r) 2 = p.length / 2 ^ 8 % 256 := ofN (by omega)
        have ht := tld_3 (b := [UInt8.ofNat o, UInt8.ofNat (p.length % 256), UInt8.ofNat (p.length / 2 ^ 8 % 256)] ++ p ++ r) (by rw [e0]; exact h3) (by simp)
        rw [e3, e4, show p.length % 256 + 256 * (p.length / 2 ^ 8 % 256) = p.length by omega] at ht
        rw [nx1_yes ht (by simp), e0]
        simp; omega
      · obtain ⟨e1, e2⟩ := layB_4 (p := p) h h2 h3
        rw [e2] at hq
        obtain rfl : p = [] := List.length_eq_zero_iff.1 (of_decide_eq_true hq)
        rw [e1]
        have e0 : byt ([UInt8.ofNat o] ++ r) 0 = o := ofN ho
        have ht := tld_5 (b := [UInt8.ofNat o] ++ r) (by rw [e0]; exact h) (by rw [e0]; exact h2) (by rw [e0]; exact h3)
        rw [nx1_yes ht (by simp), e0]
        simp
theorem layB_pos (o : Nat) (p : List UInt8) : 0 < (layB o p).length := by
  unfold layB
  split
  · simp
  · split
    · simp
    · split <;> simp
theorem ofNat_toNat' (x : UInt8) : UInt8.ofNat x.toNat = x := by simp
/-- a word told is a word laid -/
theorem nx1_inv {b : List UInt8} {o k : Nat} {p : List UInt8} (hb : 0 < b.length) (h : nx1 b = some (o, p, k)) : layQ o p = true ∧ layB o p = b.take k ∧ 1 ≤ k ∧ k ≤ b.length ∧ o < 256 := by
  unfold nx1 at h
  split at h
  · rename_i n hd ht
    split at h
    · rename_i hle
      simp only [Option.some.injEq, Prod.mk.injEq] at h
      obtain ⟨rfl, rfl, rfl⟩ := h
      obtain ⟨ha, hc, _⟩ := tld_head ht hb
      refine ⟨?_, ?_, by omega, by omega, byt_lt _ _⟩ <;> unfold tld at ht <;> split at ht
      · rename_i hx
        obtain ⟨rfl, rfl, _⟩ := t3 ht
        rw [(layB_1 hx.1 hx.2).2]
        exact decide_eq_true (by simp; omega)
      · split at ht
        · rename_i hx
          obtain ⟨rfl, rfl, _⟩ := t3 ht
          have := byt_lt b 1
          rw [(layB_2 hx.1).2]
          exact decide_eq_true (by simp; omega)
        · split at ht
          · rename_i hx
            obtain ⟨rfl, rfl, _⟩ := t3 ht
            have := byt_lt b 1
            have := byt_lt b 2
            rw [(layB_3 hx.1).2]
            exact decide_eq_true (by simp; omega)
          · split at ht
            · cases (t3 ht).2.2
            · obtain ⟨rfl, rfl, _⟩ := t3 ht
              rw [(layB_4 (by omega) (by omega) (by omega)).2]
              exact decide_eq_true (by simp)
      · rename_i hx
        obtain ⟨rfl, rfl, _⟩ := t3 ht
        rw [(layB_1 hx.1 hx.2).1, List.take_add]
        congr 1
        match b, hb with
        | x :: b, _ => simp [byt_zero]
      · split at ht
        · rename_i hx
          obtain ⟨rfl, rfl, _⟩ := t3 ht
          have := byt_lt b 1
          have hl : ((b.drop 2).take (byt b 1)).length = byt b 1 := by simp; omega
          rw [(layB_2 hx.1).1, List.take_add, hl, Nat.mod_eq_of_lt (by omega)]
          congr 1
          match b, hx.2 with
          | x :: y :: b, _ => simp [byt_zero, byt_succ]
        · split at ht
          · rename_i hx
            obtain ⟨rfl, rfl, _⟩ := t3 ht
            have h1 := byt_lt b 1
            have h2 := byt_lt b 2
            have hl : ((b.drop 3).take (byt b 1 + 256 * byt b 2)).length = byt b 1 + 256 * byt b 2 := by simp; omega
            rw [(layB_3 hx.1).1, show b.take (3 + (byt b 1 + 256 * byt b 2)) = b.take 3 ++ (b.drop 3).take (byt b 1 + 256 * byt b 2) from List.take_add, hl, show (byt b 1 + 256 * byt b 2) % 256 = byt b 1 by omega, show (byt b 1 + 256 * byt b 2) / 2 ^ 8 % 256 = byt b 2 by omega]
            congr 1
            match b, hx.2 with
            | x :: y :: z :: b, _ => simp [byt_zero, byt_succ]
          · split at ht
            · cases (t3 ht).2.2
            · obtain ⟨rfl, rfl, _⟩ := t3 ht
              rw [(layB_4 (by omega) (by omega) (by omega)).1, List.take_add]
              match b, hb with
              | x :: b, _ => simp [byt_zero]
    · cases h
  · cases h
theorem NX_er {l : List UInt8} {i o k er : Nat} {p : List UInt8} (hi : i < l.length) (h : NX l (i : Int) = (o, p, k, er)) : er = 0 ∨ er = 2 := by
  unfold NX at h
  rw [if_neg (by omega), Int.toNat_natCast] at h
  split at h <;> obtain ⟨_, _, _, rfl⟩ := t4 h
  · exact .inr rfl
  · exact .inl rfl
theorem NX_nx1 {l : List UInt8} {i o k : Nat} {p : List UInt8} (hi : i < l.length) (h : NX l (i : Int) = (o, p, k, 0)) : ∃ j, nx1 (l.drop i) = some (o, p, j) ∧ k = i + j := by
  unfold NX at h
  rw [if_neg (by omega), Int.toNat_natCast] at h
  split at h
  · cases (t4 h).2.2.2
  · rename_i o' p' k' hn
    obtain ⟨rfl, rfl, rfl, _⟩ := t4 h
    exact ⟨k', hn, rfl⟩
/-- what all words are -/
theorem parse_all {l : List UInt8} : ∀ (f i : Nat) (ws : List Wd) (er : Nat), l.length - i ≤ f → i ≤ l.length → parseF l f i = (ws, er) → (er = 0 ∧ bldQ ws = true ∧ bld ws = l.drop i ∨ er = 2 ∧ ws = []) ∧ ws.length ≤ l.length - i ∧ ∀ w ∈ ws, w.2.length ≤ l.length ∧ w.1 < 256
  | 0, i, ws, er, hf, hi, h => by
    obtain ⟨rfl, rfl⟩ := Prod.mk.inj h
    exact ⟨.inl ⟨rfl, rfl, by rw [List.drop_eq_nil_of_le (by omega)]; rfl⟩, by simp, fun w hw => by simp at hw⟩
  | f + 1, i, ws, er, hf, hi, h => by
    unfold parseF at h
    by_cases c : l.length ≤ i
    · rw [if_pos c] at h
      obtain ⟨rfl, rfl⟩ := Prod.mk.inj h
      exact ⟨.inl ⟨rfl, rfl, by rw [List.drop_eq_nil_of_le (by omega)]; rfl⟩, by simp, fun w hw => by simp at hw⟩
    · rw [if_neg c] at h
      obtain ⟨⟨o, p, k, e⟩, hx⟩ : ∃ x, NX l (i : Int) = x := ⟨_, rfl⟩
      rw [hx] at h
      cases e with
      | succ e =>
        simp only at h
        obtain ⟨rfl, rfl⟩ := Prod.mk.inj h
        rcases NX_er (by omega) hx with h0 | h0
        · omega
        · exact ⟨.inr ⟨h0, rfl⟩, by simp, fun w hw => by simp at hw⟩
      | zero =>
        simp only at h
        obtain ⟨hik, hkl, hpl, ho⟩ := NX_next (by omega) hx
        obtain ⟨j, hj, rfl⟩ := NX_nx1 (by omega) hx
        have hdl : (l.drop i).length = l.length - i := by simp
        obtain ⟨q1, q2, q3, q4, _⟩ := nx1_inv (by omega) hj
        obtain ⟨a, b, d⟩ := parse_all f (i + j) (parseF l f (i + j)).1 (parseF l f (i + j)).2 (by omega) hkl rfl
        split at h
        · rename_i h0
          obtain ⟨rfl, rfl⟩ := Prod.mk.inj h
          rcases a with ⟨_, a2, a3⟩ | ⟨a1, _⟩
          · refine ⟨.inl ⟨rfl, ?_, ?_⟩, by simp; omega, fun w hw => ?_⟩
            · simp only [bldQ, List.all_cons, Bool.and_eq_true]
              exact ⟨q1, a2⟩
            · show layB o p ++ bld (parseF l f (i + j)).1 = l.drop i
              rw [q2, a3, ← List.drop_drop]
              exact List.take_append_drop j (l.drop i)
            · rcases List.mem_cons.1 hw with rfl | hw
              · exact ⟨hpl, ho⟩
              · exact d w hw
          · omega
        · rename_i h0
          obtain ⟨rfl, rfl⟩ := Prod.mk.inj h
          rcases a with ⟨a1, _⟩ | ⟨a1, _⟩
          · exact absurd a1 h0
          · exact ⟨.inr ⟨a1, rfl⟩, by simp, fun w hw => by simp at hw⟩
theorem AW_all {l : List UInt8} {ws : List Wd} {er : Nat} (h : AW l = (ws, er)) : (er = 0 ∧ BW ws = (l, 0) ∨ er = 2 ∧ ws = []) ∧ ws.length ≤ l.length ∧ ∀ w ∈ ws, w.2.length ≤ l.length ∧ w.1 < 256 := by
  obtain ⟨a, b, c⟩ := parse_all l.length 0 ws er (by omega) (by omega) h
  refine ⟨?_, by omega, c⟩
  rcases a with ⟨a1, a2, a3⟩ | a
  · left
    refine ⟨a1, ?_⟩
    unfold BW
    rw [if_pos a2, a3]; rfl
  · exact .inr a
/-- there and back -/
theorem parse_bld : ∀ (ws : List Wd) (f : Nat) (pre : List UInt8), (∀ w ∈ ws, w.1 < 256) → bldQ ws = true → (bld ws).length ≤ f → parseF (pre ++ bld ws) f pre.length = (ws, 0)
  | [], f, pre, _, _, _ => by
    cases f with
    | zero => rfl
    | succ f => unfold parseF; rw [if_pos (by simp [bld])]
  | (o, p) :: ws, f, pre, h1, hq, hf => by
    have e : bld ((o, p) :: ws) = layB o p ++ bld ws := rfl
    simp only [bldQ, List.all_cons, Bool.and_eq_true] at hq
    have hp := layB_pos o p
    rw [e] at hf ⊢
    rw [List.length_append] at hf
    cases f with
    | zero => omega
    | succ f =>
      have hd : (pre ++ (layB o p ++ bld ws)).drop pre.length = layB o p ++ bld ws := by simp
      have hn : NX (pre ++ (layB o p ++ bld ws)) (pre.length : Int) = (o, p, pre.length + (layB o p).length, 0) := NX_some (by simp; omega) (by rw [hd]; exact nx1_lay (h1 (o, p) (by simp)) hq.1 _)
      have ih := parse_bld ws f (pre ++ layB o p) (fun w hw => h1 w (by simp [hw])) hq.2 (by omega)
      rw [List.append_assoc, List.length_append] at ih
      unfold parseF
      rw [if_neg (by simp; omega), hn]
      simp only
      rw [ih]
      rfl
theorem AW_bld {ws : List Wd} {b : List UInt8} (h1 : ∀ w ∈ ws, w.1 < 256) (h : BW ws = (b, 0)) : AW b = (ws, 0) := by
  unfold BW at h
  split at h
  · rename_i hq
    obtain ⟨rfl, _⟩ := Prod.mk.inj h
    have := parse_bld ws (bld ws).length [] h1 hq (Nat.le_refl _)
    simpa [AW] using this
  · cases (Prod.mk.inj h).2
theorem BW_er {ws : List Wd} {b : List UInt8} {er : Nat} (h : BW ws = (b, er)) (h0 : er ≠ 0) : er = 1 ∧ b = [] := by
  unfold BW at h
  split at h <;> obtain ⟨rfl, rfl⟩ := Prod.mk.inj h
  · exact absurd rfl h0
  · exact ⟨rfl, rfl⟩
theorem BW_len {ws : List Wd} {b : List UInt8} {er : Nat} (hs : Small ws) (h : BW ws = (b, er)) : b.length ≤ 403 * ws.length := by
  unfold BW at h
  split at h <;> obtain ⟨rfl, rfl⟩ := Prod.mk.inj h
  · have := bld_len (fun w hw => (hs.2 w hw).1) ws.length
    rwa [List.take_length] at this
  · simp
/-- the first word, and the others -/
theorem AW_first {l : List UInt8} {ws : List Wd} (hl : 0 < l.length) (h : AW l = (ws, 0)) : ∃ o p ws1 k, ws = (o, p) :: ws1 ∧ NX l ((0 : Nat) : Int) = (o, p, k, 0) ∧ AW (l.drop k) = (ws1, 0) ∧ k ≤ l.length ∧ p.length ≤ l.length ∧ o < 256 := by
  obtain ⟨a, _, c⟩ := AW_all h
  rcases a with ⟨_, hb⟩ | ⟨a, _⟩
  · match ws, hb with
    | [], hb =>
      have : BW [] = ([], 0) := rfl
      rw [this] at hb
      obtain ⟨rfl, _⟩ := Prod.mk.inj hb
      simp at hl
    | (o, p) :: ws1, hb =>
      unfold BW at hb
      split at hb
      · rename_i hq
        simp only [bldQ, List.all_cons, Bool.and_eq_true] at hq
        have e : layB o p ++ bld ws1 = l := (Prod.mk.inj hb).1
        obtain ⟨c1, c2⟩ := c (o, p) (by simp)
        have hle : (layB o p).length ≤ l.length := by rw [← e, List.length_append]; omega
        refine ⟨o, p, ws1, (layB o p).length, rfl, ?_, ?_, hle, c1, c2⟩
        · have := NX_some (s := l) (i := 0) hl (o := o) (p := p) (k := (layB o p).length) (by rw [List.drop_zero, ← e]; exact nx1_lay c2 hq.1 _)
          simpa using this
        · have e2 : l.drop (layB o p).length = bld ws1 := by rw [← e]; simp
          rw [e2]
          refine AW_bld (fun w hw => (c w (by simp [hw])).2) ?_
          exact if_pos (show bldQ ws1 = true from hq.2)
      · cases (Prod.mk.inj hb).2
  · omega
theorem layB_inj {o y : Nat} {p k : List UInt8} (ho : o < 256) (hy : y < 256) (hq : layQ o p = true) (hk : layQ y k = true) (h : layB o p = layB y k) : (o, p) = (y, k) := by
  have h1 := nx1_lay ho hq []
  have h2 := nx1_lay hy hk []
  rw [h, h2] at h1
  simp only [Option.some.injEq, Prod.mk.injEq] at h1
  rw [h1.1, h1.2.1]
/-- the word that pushes pushes it -/
theorem psh_push {l : List UInt8} {o : Nat} {p : List UInt8} (h : pushW l = (o, p)) : pshB o p = l ∧ pshQ o = true := by
  have hb := byt_lt l 0
  have one : l.length = 1 → l = [UInt8.ofNat (byt l 0)] := fun h1 => by
    match l, h1 with
    | [x], _ => simp [byt_zero]
  by_cases h1 : l.length = 1 ∧ (1 ≤ byt l 0 ∧ byt l 0 ≤ 16)
  · rw [pushW_1 h1.1 h1.2.1 h1.2.2] at h
    obtain ⟨rfl, rfl⟩ := Prod.mk.inj h
    obtain ⟨a, b⟩ := psh_3 (o := 80 + byt l 0) (p := []) (by omega) (by omega)
    rw [a, b]
    refine ⟨?_, rfl⟩
    rw [show 80 + byt l 0 - 80 = byt l 0 by omega]
    exact (one h1.1).symm
  · by_cases h2 : l.length = 1 ∧ byt l 0 = 129
    · rw [pushW_2 h2.1 h2.2] at h
      obtain ⟨rfl, rfl⟩ := Prod.mk.inj h
      refine ⟨?_, rfl⟩
      have := one h2.1
      rw [h2.2] at this
      exact this.symm
    · rw [pushW_3 h1 h2] at h
      obtain ⟨rfl, rfl⟩ := Prod.mk.inj h
      exact psh_1 (by split; omega; split <;> decide)
theorem lay_push {l : List UInt8} {o : Nat} {p : List UInt8} (hl : l.length ≤ 400) (h : pushW l = (o, p)) : layQ o p = true := by
  have hb := byt_lt l 0
  by_cases h1 : l.length = 1 ∧ (1 ≤ byt l 0 ∧ byt l 0 ≤ 16)
  · rw [pushW_1 h1.1 h1.2.1 h1.2.2] at h
    obtain ⟨rfl, rfl⟩ := Prod.mk.inj h
    rw [(layB_4 (by omega) (by omega) (by omega)).2]; rfl
  · by_cases h2 : l.length = 1 ∧ byt l 0 = 129
    · rw [pushW_2 h2.1 h2.2] at h
      obtain ⟨rfl, rfl⟩ := Prod.mk.inj h
      rfl
    · by_cases h3 : l.length ≤ 75
      · rw [pushW_a h1 h2 h3] at h
        obtain ⟨rfl, rfl⟩ := Prod.mk.inj h
        by_cases h0 : l.length = 0
        · rw [(layB_4 (by omega) (by omega) (by omega)).2]; exact decide_eq_true h0
        · rw [(layB_1 (by omega) h3).2]; exact decide_eq_true rfl
      · by_cases h4 : l.length ≤ 255
        · rw [pushW_b h1 h2 h3 h4] at h
          obtain ⟨rfl, rfl⟩ := Prod.mk.inj h
          rw [(layB_2 rfl).2]; exact decide_eq_true h4
        · rw [pushW_c h1 h2 h4] at h
          obtain ⟨rfl, rfl⟩ := Prod.mk.inj h
          rw [(layB_3 rfl).2]; exact decide_eq_true (by omega)
theorem short_push {l : List UInt8} {o : Nat} {p : List UInt8} (h : pushW l = (o, p)) : shortB o p = true := by
  obtain ⟨a, b⟩ := psh_push h
  unfold shortB
  rw [a, b, h]; simp
theorem BW_one {o : Nat} {p : List UInt8} (hq : layQ o p = true) : BW [(o, p)] = (layB o p, 0) := by
  unfold BW
  rw [if_pos (by simp [bldQ, hq])]
  simp [bld]
theorem BW_one' {o er : Nat} {p b : List UInt8} (h : BW [(o, p)] = (b, er)) (h0 : er = 0) : layQ o p = true ∧ b = layB o p := by
  subst h0
  unfold BW at h
  split at h
  · rename_i hq
    obtain ⟨rfl, _⟩ := Prod.mk.inj h
    exact ⟨by simpa [bldQ] using hq, by simp [bld]⟩
  · cases (Prod.mk.inj h).2
/-- no word that pushes it is shorter -/
theorem push_least {l p : List UInt8} {o : Nat} (hp : pshB o p = l) (hq : pshQ o = true) (hy : layQ o p = true) : (layB (pushW l).1 (pushW l).2).length ≤ (layB o p).length := by
  have hb := byt_lt l 0
  have hpos := layB_pos o p
  by_cases h1 : l.length = 1 ∧ (1 ≤ byt l 0 ∧ byt l 0 ≤ 16)
  · rw [pushW_1 h1.1 h1.2.1 h1.2.2, (layB_4 (by omega) (by omega) (by omega)).1]; exact hpos
  · by_cases h2 : l.length = 1 ∧ byt l 0 = 129
    · rw [pushW_2 h2.1 h2.2, (layB_4 (by omega) (by omega) (by omega)).1]; exact hpos
    · have ho : o ≤ 77 := by
        by_cases h77 : o ≤ 77
        · exact h77
        · exfalso
          by_cases h79 : o = 79
          · rw [(psh_2 h77 h79).1] at hp; subst hp; exact h2 ⟨rfl, rfl⟩
          · by_cases h80 : 80 < o ∧ o ≤ 96
            · rw [(psh_3 h80.1 h80.2).1] at hp; subst hp
              exact h1 ⟨rfl, by rw [byt_zero, ofN (by omega)]; omega⟩
            · rw [(psh_4 (p := p) h77 h79 h80).2] at hq; cases hq
      rw [(psh_1 ho).1] at hp
      subst hp
      rw [pushW_3 h1 h2]
      show (layB (if p.length ≤ 75 then p.length else if p.length ≤ 255 then 76 else 77) p).length ≤ (layB o p).length
      by_cases h3 : p.length ≤ 75
      · rw [if_pos h3]
        by_cases h0 : p.length = 0
        · rw [(layB_4 (by omega) (by omega) (by omega)).1]; exact hpos
        · rw [(layB_1 (p := p) (by omega) h3).1]
          by_cases c1 : 0 < o ∧ o ≤ 75
          · rw [(layB_1 c1.1 c1.2).1]; simp
          · by_cases c2 : o = 76
            · rw [(layB_2 c2).1]; simp
            · by_cases c3 : o = 77
              · rw [(layB_3 c3).1]; simp
              · rw [(layB_4 c1 c2 c3).2] at hy
                exact absurd (of_decide_eq_true hy) h0
      · rw [if_neg h3]
        by_cases h4 : p.length ≤ 255
        · rw [if_pos h4, (layB_2 rfl).1]
          by_cases c1 : 0 < o ∧ o ≤ 75
          · rw [(layB_1 c1.1 c1.2).2] at hy
            have := of_decide_eq_true hy
            omega
          · by_cases c2 : o = 76
            · rw [(layB_2 c2).1]; simp
            · by_cases c3 : o = 77
              · rw [(layB_3 c3).1]; simp
              · rw [(layB_4 c1 c2 c3).2] at hy
                have := of_decide_eq_true hy
                omega
        · rw [if_neg h4, (layB_3 rfl).1]
          by_cases c1 : 0 < o ∧ o ≤ 75
          · rw [(layB_1 c1.1 c1.2).2] at hy
            have := of_decide_eq_true hy
            omega
          · by_cases c2 : o = 76
            · rw [(layB_2 c2).2] at hy
              have := of_decide_eq_true hy
              omega
            · by_cases c3 : o = 77
              · rw [(layB_3 c3).1]; simp
              · rw [(layB_4 c1 c2 c3).2] at hy
                have := of_decide_eq_true hy
                omega
theorem short_eq {l p : List UInt8} {o : Nat} {y : Nat} {k : List UInt8} (hl : l.length ≤ 400) (ho : o < 256) (hp : pshB o p = l) (hq : pshQ o = true) (hy : layQ o p = true) (hw : pushW l = (y, k)) : (shortB o p == decide (layB o p = layB y k)) = true := by
  unfold shortB
  rw [hp, hq, hw]
  have hy2 := lay_push hl hw
  have hlt := pushW_lt l
  rw [hw] at hlt
  by_cases h : (y, k) = (o, p)
  · obtain ⟨rfl, rfl⟩ := Prod.mk.inj h
    simp
  · have : layB o p ≠ layB y k := fun e => h (layB_inj hlt.1 ho hy2 hy e.symm)
    rw [decide_eq_false h, decide_eq_false this]; rfl
/-- words that a law asks about -/
def smallQ (ws : List Wd) : Bool := decide (ws.length ≤ 40) && ws.all fun w => decide (w.2.length ≤ 400)
theorem smallQ_small {ws : List Wd} (h : smallQ ws = true) (h1 : ∀ w ∈ ws, w.1 < 256) : Small ws := by
  simp only [smallQ, Bool.and_eq_true, decide_eq_true_eq, List.all_eq_true] at h
  exact ⟨by omega, fun w hw => ⟨h.2 w hw, h1 w hw⟩⟩
theorem smallQ_no1 {ws : List Wd} {i : Nat} (hi : i < ws.length) (h : i = 40) : smallQ ws = false := by
  simp only [smallQ, Bool.and_eq_false_iff]
  exact .inl (decide_eq_false (by omega))
theorem smallQ_no2 {ws : List Wd} {i o : Nat} {p : List UInt8} (hw : ws[i]? = some (o, p)) (h : 400 < p.length) : smallQ ws = false := by
  cases hq : smallQ ws with
  | false => rfl
  | true =>
    simp only [smallQ, Bool.and_eq_true, decide_eq_true_eq, List.all_eq_true] at hq
    have := hq.2 _ (List.mem_of_getElem? hw)
    simp only at this
    omega
theorem smallQ_yes {ws : List Wd} {i : Nat} (hi : ¬ i < ws.length) (h40 : i ≤ 40) (hl : i ≤ ws.length) (ha : ∀ j, j < i → ∀ w, ws[j]? = some w → w.2.length ≤ 400) : smallQ ws = true := by
  simp only [smallQ, Bool.and_eq_true, decide_eq_true_eq, List.all_eq_true]
  refine ⟨by omega, fun w hw => ?_⟩
  obtain ⟨j, hj⟩ := List.getElem?_of_mem hw
  have := (List.getElem?_eq_some_iff.1 hj).1
  exact ha j (by omega) w hj
theorem smallQ_step {ws : List Wd} {i o : Nat} {p : List UInt8} (ha : ∀ j, j < i → ∀ w, ws[j]? = some w → w.2.length ≤ 400) (hw : ws[i]? = some (o, p)) (hp : ¬ 400 < p.length) : ∀ j, j < i + 1 → ∀ w, ws[j]? = some w → w.2.length ≤ 400 := by
  intro j hj w hjw
  by_cases hji : j = i
  · subst hji
    rw [hw] at hjw
    obtain rfl := Option.some.inj hjw
    show p.length ≤ 400
    omega
  · exact ha j (by omega) w hjw
theorem wcl_tail {o : Nat} {p : List UInt8} {ws : List Wd} {vs : List Value} (hv : vs.length = ((o, p) :: ws).length) : ((wcl ((o, p) :: ws) vs).drop (1 * 2)).take ((((o, p) :: ws).length - 1) * 2) = wcl ws (vs.drop 1) := by
  match vs, hv with
  | v :: vs, hv =>
    have hl := wcl_length ws vs (by simpa using hv)
    simp only [wcl, List.drop_succ_cons, List.drop_zero, List.length_cons, Nat.add_sub_cancel]
    exact List.take_of_length_le (by omega)
theorem bysv_tail {w : World} {Z : Nat → Prop} {vs : List Value} {l : List UInt8} {ls : List (List UInt8)} (h : BysV w Z vs (l :: ls)) : BysV w Z (vs.drop 1) ls := by
  refine ⟨by have := h.1; simp at this ⊢; omega, fun i v k hv hk => ?_⟩
  rw [List.getElem?_drop, Nat.add_comm] at hv
  exact h.2 (i + 1) v k hv (by simpa using hk)
end Go.Proofs.Ytbjnlcblaonccaa
