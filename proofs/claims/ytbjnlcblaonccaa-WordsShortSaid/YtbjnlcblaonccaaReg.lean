/- A region that draws its order: each operation is looked at once, whatever came ahead of it. -/
import Derived.Test.YtbjnlcblaonccaaSt
namespace Go.Proofs.Ytbjnlcblaonccaa
open Go.RowKit

/-- is k among them? -/
def memb (k : Nat) : List Nat → Bool
  | [] => false
  | i :: l => bif Nat.beq i k then true else memb k l
theorem memb_iff {k : Nat} : ∀ {l : List Nat}, memb k l = true ↔ k ∈ l
  | [] => by simp [memb]
  | i :: l => by
    cases hb : Nat.beq i k
    · have hne : i ≠ k := fun h => by rw [beqN.2 h] at hb; simp at hb
      simp only [memb, hb, cond_false, memb_iff, List.mem_cons]
      exact ⟨.inr, fun h => h.resolve_left fun e => hne e.symm⟩
    · have := beqN.1 hb
      simp [memb, hb, this]
/-- the flags ahead of operation i: what must be done is done, it and what must wait for it is not -/
def frc (i : Nat) (p : List Nat × List Nat) (L : Nat → Bool) (k : Nat) : Bool := bif memb k p.1 then true else bif memb k (i :: p.2) then false else L k
def upf (L : Nat → Bool) (i k : Nat) : Bool := bif Nat.beq i k then true else L k

section
variable {P : Program} {Q : Exit → Act → World → Prop} {K : Act → World → Prop} {a : Act} {w : World} {o : Oper}

/-- an operation under its guard -/
def wpO (P : Program) (ops : Array Oper) (Q : Exit → Act → World → Prop) (o : Oper) (K : Act → World → Prop) (a : Act) (w : World) : Prop :=
  if Region.wanted o (yielded ops a.tmps) then o.wp P a w K Q else K (a.put o.dst undef) w
theorem wpO_plain {ops : Array Oper} (hg : o.guard = none) (h : o.wp P a w K Q) : wpO P ops Q o K a w := by
  unfold wpO
  rw [if_pos (by simp [Region.wanted, hg])]
  exact h
theorem wpO_in {n : Nat} {w0 : Bs} {fs : List Sl} {bs : List Bl} {ops : Array Oper} {j d : Nat} {b : Bool} (hs : St n w0 fs bs a w) (hg : o.guard = some (j, b)) (hj : (ops[j]?).bind (·.dst) = some d) (hv : lk fs d = some (.bool b)) (h : o.wp P a w K Q) : wpO P ops Q o K a w := by
  unfold wpO
  rw [if_pos (by simp [Region.wanted, hg, yielded, hj, hs.slots d _ hv])]
  exact h
theorem wpO_out {n : Nat} {w0 : Bs} {fs : List Sl} {bs : List Bl} {ops : Array Oper} {j d e : Nat} {b : Bool} (hs : St n w0 fs bs a w) (m : Option Nat) (hg : o.guard = some (j, b)) (hj : (ops[j]?).bind (·.dst) = some d) (hv : lk fs d = some (.bool (!b)) ∨ lk fs d = some undef) (hd : o.dst = some e) (hok : okf m fs e n = true)
    (h : ∀ a', St n w0 (putf m fs e undef) bs a' w → K a' w) : wpO P ops Q o K a w := by
  unfold wpO
  rw [if_neg (by rcases hv with hv | hv <;> simp [Region.wanted, hg, yielded, hj, hs.slots d _ hv, undef]), hd]
  exact h _ (hs.put hok _)
theorem wpO_outN {n : Nat} {w0 : Bs} {fs : List Sl} {bs : List Bl} {ops : Array Oper} {j d : Nat} {b : Bool} (hs : St n w0 fs bs a w) (hg : o.guard = some (j, b)) (hj : (ops[j]?).bind (·.dst) = some d) (hv : lk fs d = some (.bool (!b)) ∨ lk fs d = some undef) (hd : o.dst = none)
    (h : K a w) : wpO P ops Q o K a w := by
  unfold wpO
  rw [if_neg (by rcases hv with hv | hv <;> simp [Region.wanted, hg, yielded, hj, hs.slots d _ hv, undef]), hd]
  exact h
theorem lstep {ops : Array Oper} {rest : List Oper} (h : wpO P ops Q o (wpList P ops Q rest) a w) : wpList P ops Q (o :: rest) a w :=
  wpList_step fun K hK => by
    unfold wpO at h
    split
    · rename_i hw; rw [if_pos hw] at h; exact Oper.wp_mono hK h
    · rename_i hw; rw [if_neg hw] at h; exact hK _ _ h

def dep (o : Oper) : List Nat := o.after.toList.filterMap fun e => if Region.binds .any e then some e.on else none
/-- the table of a region: of each operation those that come ahead of it in every order, and those behind it in every order -/
def tabRow (ops : List Oper) (tab : List (List Nat × List Nat)) (i : Nat) : Bool :=
  match ops[i]?, tab[i]? with
  | some o, some p => (dep o).all (fun k => Nat.blt k i) && p.1.all (fun k => memb k (dep o) || (dep o).any fun d => memb k (tab.getD d ([], [])).1) && p.2.all (fun j => Nat.blt j ops.length && memb i (tab.getD j ([], [])).1)
  | _, _ => false
def tabOk (ops : List Oper) (tab : List (List Nat × List Nat)) : Bool := (List.range ops.length).all (tabRow ops tab)
def Steps (P : Program) (ops : Array Oper) (Q : Exit → Act → World → Prop) (J : (Nat → Bool) → Act → World → Prop) : List Oper → List (List Nat × List Nat) → Nat → Prop
  | [], _, _ => True
  | _ :: _, [], _ => False
  | o :: l, p :: t, i => (∀ L a w, J (frc i p L) a w → wpO P ops Q o (J (upf (frc i p L) i)) a w) ∧ Steps P ops Q J l t (i + 1)
theorem Steps.get {ops : Array Oper} {J : (Nat → Bool) → Act → World → Prop} : ∀ {l : List Oper} {tab : List (List Nat × List Nat)} {i : Nat}, Steps P ops Q J l tab i → ∀ (j : Nat) o p, l[j]? = some o → tab[j]? = some p →
    ∀ L a w, J (frc (i + j) p L) a w → wpO P ops Q o (J (upf (frc (i + j) p L) (i + j))) a w
  | o :: l, p :: t, i, h, 0, o', p', ho, hp => by
    obtain rfl : o = o' := by simpa using ho
    obtain rfl : p = p' := by simpa using hp
    exact h.1
  | o :: l, p :: t, i, h, j + 1, o', p', ho, hp => by
    have := h.2.get j o' p' (by simpa using ho) (by simpa using hp)
    rwa [show i + 1 + j = i + (j + 1) by omega] at this
  | [], _, _, _, _, _, _, ho, _ => by simp at ho
  | _ :: _, [], _, h, _, _, _, _, _ => h.elim

def nfl : List Bool → Nat
  | [] => 0
  | b :: l => (bif b then 0 else 1) + nfl l
theorem nfl_set : ∀ (l : List Bool) (i : Nat), l[i]? = some false → nfl (l.set i true) + 1 = nfl l
  | [], i, h => by simp at h
  | b :: l, 0, h => by
    obtain rfl : b = false := by simpa using h
    simp [nfl]; omega
  | b :: l, i + 1, h => by
    have := nfl_set l i (by simpa using h)
    simp only [List.set_cons_succ, nfl]
    omega
theorem nfl_zero : ∀ (l : List Bool), nfl l = 0 → ∀ (i : Nat) (b : Bool), l[i]? = some b → b = true
  | [], _, i, b, h => by simp at h
  | c :: l, h0, 0, b, h => by
    obtain rfl : c = b := by simpa using h
    cases c
    · simp [nfl] at h0
    · rfl
  | c :: l, h0, i + 1, b, h => nfl_zero l (by simp only [nfl] at h0; omega) i b (by simpa using h)
theorem nfl_pos : ∀ (l : List Bool), 0 < nfl l → ∃ i : Nat, l[i]? = some false ∧ ∀ j, j < i → l[j]? = some true
  | [], h => by simp [nfl] at h
  | false :: l, _ => ⟨0, rfl, fun j hj => by omega⟩
  | true :: l, h => by
    obtain ⟨i, h1, h2⟩ := nfl_pos l (by simpa [nfl] using h)
    refine ⟨i + 1, by simpa using h1, fun j hj => ?_⟩
    cases j with
    | zero => rfl
    | succ j => simpa using h2 j (by omega)
theorem nfl_rep : ∀ n, nfl (List.replicate n false) = n
  | 0 => rfl
  | n + 1 => by simp only [List.replicate_succ, nfl, nfl_rep n, cond_false]; omega

def flg (listed : Array Bool) (k : Nat) : Bool := listed.getD k true
theorem mem_ready {ops : Array Oper} {listed : Array Bool} {i : Nat} : i ∈ Region.ready .any ops listed ↔ ∃ o, ops[i]? = some o ∧ flg listed i = false ∧ ∀ k ∈ dep o, listed.getD k false = true := by
  unfold Region.ready
  simp only [List.mem_filter, List.mem_range, Bool.and_eq_true, Bool.not_eq_true']
  constructor
  · rintro ⟨hlt, h1, h2⟩
    refine ⟨ops[i], by simp [hlt], h1, fun k hk => ?_⟩
    rw [Array.getElem?_eq_getElem hlt] at h2
    simp only [Option.map_some, Option.getD_some] at h2
    unfold dep at hk
    obtain ⟨e, he, hek⟩ := List.mem_filterMap.1 hk
    split at hek
    · rename_i hb
      obtain rfl : e.on = k := by simpa using hek
      have := (Array.all_eq_true_iff_forall_mem.1 h2) e (by simpa using he)
      simpa [hb] using this
    · cases hek
  · rintro ⟨o, ho, h1, h2⟩
    obtain ⟨hlt, rfl⟩ := Array.getElem?_eq_some_iff.1 ho
    refine ⟨hlt, h1, ?_⟩
    rw [ho]
    simp only [Option.map_some, Option.getD_some]
    refine Array.all_eq_true_iff_forall_mem.2 fun e he => ?_
    by_cases hb : Region.binds .any e = true
    · have := h2 e.on (List.mem_filterMap.2 ⟨e, by simpa using he, by simp [hb]⟩)
      simp [this]
    · simp [hb]

theorem wpOp_of {ops : Array Oper} {i : Nat} (ho : ops[i]? = some o) (h : wpO P ops Q o K a w) : wpOp P ops Q i K a w := by
  unfold wpOp
  rw [ho]
  unfold wpO at h
  show if Region.wanted o (yielded ops a.tmps) = true then _ else _
  split
  · rename_i hw; rw [if_pos hw] at h; exact .inl h
  · rename_i hw; rw [if_neg hw] at h; exact h

theorem any_inv {ops : Array Oper} {J : (Nat → Bool) → Act → World → Prop} {tab : List (List Nat × List Nat)} (hT : tabOk ops.toList tab = true) (hS : Steps P ops Q J ops.toList tab 0) (hend : ∀ a w, J (fun _ => true) a w → Q .normal a w) :
    ∀ (fuel : Nat) (listed : Array Bool) (a : Act) (w : World), listed.size = ops.size → nfl listed.toList = fuel → (∀ j p, tab[j]? = some p → listed.getD j false = true → ∀ k ∈ p.1, listed.getD k false = true) → J (flg listed) a w → wpAny P .any ops Q fuel listed a w := by
  have row : ∀ i, i < ops.size → tabRow ops.toList tab i = true := fun i hi => (List.all_eq_true.1 hT) i (by simpa using hi)
  intro fuel
  induction fuel with
  | zero =>
    intro listed a w hsz hf hok hJ
    have hall : ∀ i, flg listed i = true := fun i => by
      unfold flg
      cases hb : listed[i]? with
      | none => simp [hb]
      | some b =>
        have := nfl_zero _ hf i b (by simpa using hb)
        simp [hb, this]
    refine ⟨?_, hend a w (by rw [show (fun _ => true) = flg listed from (funext hall).symm]; exact hJ)⟩
    refine List.eq_nil_iff_forall_not_mem.2 fun i hi => ?_
    obtain ⟨_, _, h, _⟩ := mem_ready.1 hi
    rw [hall i] at h
    cases h
  | succ fuel ih =>
    intro listed a w hsz hf hok hJ
    constructor
    · intro hr
      obtain ⟨i, h1, h2⟩ := nfl_pos listed.toList (by omega)
      have hlt : i < ops.size := by
        have := (List.getElem?_eq_some_iff.1 h1).1
        simpa [hsz] using this
      refine absurd (mem_ready.2 ⟨ops[i], by simp [hlt], by simp [flg, ← Array.getElem?_toList, h1], fun k hk => ?_⟩) (List.eq_nil_iff_forall_not_mem.1 hr i)
      have := row i hlt
      unfold tabRow at this
      rw [show ops.toList[i]? = some ops[i] by simp [hlt]] at this
      cases ht : tab[i]? with
      | none => rw [ht] at this; simp at this
      | some p =>
        rw [ht] at this
        simp only [Bool.and_eq_true] at this
        have hki := (List.all_eq_true.1 this.1.1) k hk
        have hki' : k < i := by simpa using hki
        simp [← Array.getElem?_toList, h2 k hki']
    · intro i hi
      obtain ⟨o, ho, h1, h2⟩ := mem_ready.1 hi
      obtain ⟨hlt, _⟩ := Array.getElem?_eq_some_iff.1 ho
      have hrow := row i hlt
      unfold tabRow at hrow
      rw [show ops.toList[i]? = some o by simpa using ho] at hrow
      cases ht : tab[i]? with
      | none => rw [ht] at hrow; simp at hrow
      | some p =>
        rw [ht] at hrow
        simp only [Bool.and_eq_true] at hrow
        obtain ⟨⟨r1, r2⟩, r3⟩ := hrow
        have hp1 : ∀ k ∈ p.1, listed.getD k false = true := fun k hk => by
          have := (List.all_eq_true.1 r2) k hk
          rcases Bool.or_eq_true_iff.1 this with h | h
          · exact h2 k (memb_iff.1 h)
          · obtain ⟨d, hd, hkd⟩ := List.any_eq_true.1 h
            cases htd : tab[d]? with
            | none => simp [htd, memb] at hkd
            | some q =>
              refine hok d q htd (h2 d hd) k (memb_iff.1 ?_)
              simpa [htd] using hkd
        have hli : listed[i]? = some false := by
          have hi' : i < listed.size := by omega
          simp only [flg, Array.getD, hi', dite_true] at h1
          rw [Array.getElem?_eq_getElem hi']
          exact congrArg some h1
        have hfrc : frc i p (flg listed) = flg listed := by
          funext k
          unfold frc
          cases hk1 : memb k p.1
          · cases hk2 : memb k (i :: p.2)
            · rfl
            · simp only [cond_false, cond_true]
              rcases List.mem_cons.1 (memb_iff.1 hk2) with rfl | hk
              · exact h1.symm
              · have := (List.all_eq_true.1 r3) k hk
                simp only [Bool.and_eq_true] at this
                have hkl : k < ops.size := by simpa using this.1
                cases htk : tab[k]? with
                | none => simp [htk, memb] at this
                | some q =>
                  have hik : i ∈ q.1 := memb_iff.1 (by simpa [htk] using this.2)
                  cases hc : flg listed k
                  · rfl
                  · exfalso
                    have hk' : listed.getD k false = true := by
                      have hks : k < listed.size := by omega
                      simp only [flg, Array.getD, hks, dite_true] at hc ⊢
                      exact hc
                    have := hok k q htk hk' i hik
                    simp [hli] at this
          · simp only [cond_true]
            have := hp1 k (memb_iff.1 hk1)
            simp only [flg, Array.getD] at this ⊢
            split at this
            · rename_i hh; simp only [hh, dite_true]; exact this.symm
            · cases this
        have hstep := hS.get i o p (by simpa using ho) ht
        rw [Nat.zero_add] at hstep
        have := hstep (flg listed) a w (by rw [hfrc]; exact hJ)
        rw [hfrc] at this
        refine wpOp_mono (fun a' w' hJ' => ?_) (wpOp_of ho this)
        refine ih _ a' w' (by simpa using hsz) ?_ ?_ ?_
        · have := nfl_set listed.toList i (by simpa using hli)
          rw [Array.toList_setIfInBounds]
          omega
        · intro j q hj hjt k hk
          by_cases hki : i = k
          · subst hki
            have : i < listed.size := by omega
            simp [this]
          · have hold : listed.getD k false = true := by
              by_cases hji : i = j
              · subst hji
                rw [ht] at hj
                obtain rfl : p = q := by simpa using hj
                exact hp1 k hk
              · refine hok j q hj ?_ k hk
                simpa [Array.getElem?_setIfInBounds_ne hji] using hjt
            simpa [Array.getElem?_setIfInBounds_ne hki] using hold
        · have : flg (listed.setIfInBounds i true) = upf (flg listed) i := by
            funext k
            unfold upf flg
            by_cases hki : i = k
            · subst hki
              have : i < listed.size := by omega
              simp [this]
            · have hb : Nat.beq i k = false := by
                cases hb : Nat.beq i k
                · rfl
                · exact absurd (beqN.1 hb) hki
              simp [Array.getElem?_setIfInBounds_ne hki, hb]
          rw [this]
          exact hJ'

theorem blt_iff {a b : Nat} : Nat.blt a b = true ↔ a < b := by simp [Nat.blt_eq]
theorem region_inv {id : Nat} {l : List Oper} (tab : List (List Nat × List Nat)) (J : (Nat → Bool) → Act → World → Prop) (hm : P.follows .mixedOrders = true) (hT : tabOk l tab = true)
    (h0 : J (fun k => !Nat.blt k l.length) a w.drew) (hS : Steps P l.toArray Q J l tab 0) (hend : ∀ a w, J (fun _ => true) a w → Q .normal a w) : (Code.region id l.toArray true).wp P Q a w := by
  refine wp_region_any hm ?_
  refine any_inv (J := J) (tab := tab) (by simpa using hT) (by simpa using hS) hend _ _ _ _ (by simp) (by simpa using nfl_rep l.length) ?_ ?_
  · intro j p _ h k _
    simp [Array.getElem?_replicate] at h
    split at h <;> simp at h
  · have : flg (Array.replicate l.toArray.size false) = fun k => !Nat.blt k l.length := by
      funext k
      unfold flg
      by_cases hk : k < l.length
      · simp [hk, Array.getElem?_replicate, blt_iff.2 hk]
      · have : Nat.blt k l.length = false := by
          cases hb : Nat.blt k l.length
          · rfl
          · exact absurd (blt_iff.1 hb) hk
        simp [hk, Array.getElem?_replicate, this]
    rw [this]
    exact h0
end
end Go.Proofs.Ytbjnlcblaonccaa
