/- Several texts in one, what this law needs of them: StkP, Bytes, Sha1, Sha2. -/
import Derived.Test.YtikkhkjndbicgaaTC1

/- Stacks: what the operations make of lists of byte strings, in plain Lean. -/
namespace Go.Proofs.Ytikkhkjndbicgaa
open Go.RowKit
abbrev BL := List (List UInt8)
structure M1 where
  a : Option Addr
  c : Nat
  vs : List Value
  G : Nat → Prop
structure M1x where
  a : Option Addr
  c : Nat
  vs : List Value
  x : Option Addr
  y : Nat
structure M1o where
  a : Option Addr
  c : Nat
  vs : List Value
  o : Nat
structure M2g where
  a : Option Addr
  c : Nat
  vs : List Value
  b : Option Addr
  d : Nat
  us : List Value
  G : Nat → Prop
  o : Nat
structure M2x where
  a : Option Addr
  c : Nat
  vs : List Value
  b : Option Addr
  d : Nat
  us : List Value
  G : Nat → Prop
  x : Option Addr
  y : Nat
structure M2 where
  a : Option Addr
  c : Nat
  vs : List Value
  b : Option Addr
  d : Nat
  us : List Value
  G : Nat → Prop
def failE (e k : Nat) : Nat := if e = 0 then k else e
def needE (N n e : Nat) : Nat := if N < n then failE e 12 else e
def mustE (b : Bool) (e : Nat) : Nat := if b = true then e else failE e 16
def lastB (ks : BL) : List UInt8 := ks.getD (ks.length - 1) []
def popL (ks : BL) (e : Nat) : List UInt8 × BL × Nat :=
  if needE ks.length 1 e = 0 then (lastB ks, ks.take (ks.length - 1), 0) else ([], ks, needE ks.length 1 e)
def readL (x : List UInt8) (most : Int) (e : Nat) : Int × Nat := if e = 0 then decN x most else (0, e)
def shufL (n : Nat) (ps : List Nat) (ks : BL) (e : Nat) : BL × Nat :=
  if needE ks.length n e = 0 then (ks.take (ks.length - n) ++ ps.map (fun p => (ks.drop (ks.length - n)).getD p []), 0) else (ks, needE ks.length n e)
def deepR (r : Bool) (n : Int) (ks : BL) : BL × Nat :=
  if n < 0 ∨ (ks.length : Int) ≤ n then (ks, 12)
  else ((if r = true then ks.eraseIdx (ks.length - 1 - n.toNat) else ks) ++ [ks.getD (ks.length - 1 - n.toNat) []], 0)
def deepL (r : Bool) (ks : BL) (e : Nat) : BL × Nat :=
  if (readL (popL ks e).1 4 (popL ks e).2.2).2 = 0 then deepR r (readL (popL ks e).1 4 (popL ks e).2.2).1 (popL ks e).2.1
  else ((popL ks e).2.1, (readL (popL ks e).1 4 (popL ks e).2.2).2)
def backL (ks js : BL) (e : Nat) : BL × BL × Nat := if js.length = 0 then (ks, js, failE e 12) else (ks ++ [lastB js], js.take (js.length - 1), e)
def joinL (ks : BL) (e : Nat) : BL × Nat :=
  if needE ks.length 2 e = 0 then (ks.take (ks.length - 2) ++ [ks.getD (ks.length - 2) [] ++ ks.getD (ks.length - 1) []], 0) else (ks, needE ks.length 2 e)
def alikL (ks : BL) (e : Nat) : Bool × BL × Nat :=
  if needE ks.length 2 e = 0 then (decide (ks.getD (ks.length - 1) [] = ks.getD (ks.length - 2) []), ks.take (ks.length - 2), 0) else (false, ks, needE ks.length 2 e)
def hashL (f : List UInt8 → List UInt8) (ks : BL) (e : Nat) : BL × Nat :=
  if needE ks.length 1 e = 0 then (ks.take (ks.length - 1) ++ [f (lastB ks)], 0) else (ks, needE ks.length 1 e)
def opsR : Nat → BL → Nat → List Int × BL × Nat
  | 0, ks, e => ([], ks, e)
  | n + 1, ks, e =>
    let r := readL (popL ks e).1 4 (popL ks e).2.2
    let s := opsR n (popL ks e).2.1 r.2
    (s.1 ++ [r.1], s.2)
def opsL (n : Nat) (ks : BL) (e : Nat) : List Int × BL × Nat :=
  if needE ks.length n e = 0 then opsR n ks 0 else (List.replicate n 0, ks, needE ks.length n e)
def truI (b : Bool) : Int := if b = true then 1 else 0
def unL (op : Nat) (x : Int) : Int × Bool :=
  if op = 139 then (x + 1, true) else if op = 140 then (x - 1, true) else if op = 143 then (-x, true) else if op = 144 then (max x (-x), true)
  else if op = 145 then (truI (decide (x = 0)), true) else if op = 146 then (truI (decide (x ≠ 0)), true) else (0, false)
def cmpL (op : Nat) (x y : Int) : Bool × Bool :=
  if op = 154 then (decide (x ≠ 0) && decide (y ≠ 0), true) else if op = 155 then (decide (x ≠ 0) || decide (y ≠ 0), true)
  else if op = 156 then (decide (x = y), true) else if op = 157 then (decide (x = y), true) else if op = 158 then (decide (x ≠ y), true)
  else if op = 159 then (decide (x < y), true) else if op = 160 then (decide (y < x), true) else if op = 161 then (decide (x ≤ y), true)
  else if op = 162 then (decide (y ≤ x), true) else (false, false)
def binL (op : Nat) (x y : Int) : Int × Bool :=
  if op = 147 then (x + y, true) else if op = 148 then (x - y, true) else if op = 163 then (min x y, true) else if op = 164 then (max x y, true)
  else (truI (cmpL op x y).1, (cmpL op x y).2)
def movL (op : Nat) (ks js : BL) (e : Nat) : Bool × BL × BL × Nat :=
  if op = 97 then (true, ks, js, e)
  else if op = 107 then (true, (popL ks e).2.1, js ++ [(popL ks e).1], (popL ks e).2.2)
  else if op = 108 then (true, backL ks js e)
  else if op = 109 then (true, (shufL 2 [] ks e).1, js, (shufL 2 [] ks e).2)
  else if op = 110 then (true, (shufL 2 [0, 1, 0, 1] ks e).1, js, (shufL 2 [0, 1, 0, 1] ks e).2)
  else if op = 111 then (true, (shufL 3 [0, 1, 2, 0, 1, 2] ks e).1, js, (shufL 3 [0, 1, 2, 0, 1, 2] ks e).2)
  else if op = 112 then (true, (shufL 4 [0, 1, 2, 3, 0, 1] ks e).1, js, (shufL 4 [0, 1, 2, 3, 0, 1] ks e).2)
  else if op = 113 then (true, (shufL 6 [2, 3, 4, 5, 0, 1] ks e).1, js, (shufL 6 [2, 3, 4, 5, 0, 1] ks e).2)
  else if op = 114 then (true, (shufL 4 [2, 3, 0, 1] ks e).1, js, (shufL 4 [2, 3, 0, 1] ks e).2)
  else if op = 117 then (true, (shufL 1 [] ks e).1, js, (shufL 1 [] ks e).2)
  else if op = 118 then (true, (shufL 1 [0, 0] ks e).1, js, (shufL 1 [0, 0] ks e).2)
  else if op = 119 then (true, (shufL 2 [1] ks e).1, js, (shufL 2 [1] ks e).2)
  else if op = 120 then (true, (shufL 2 [0, 1, 0] ks e).1, js, (shufL 2 [0, 1, 0] ks e).2)
  else if op = 123 then (true, (shufL 3 [1, 2, 0] ks e).1, js, (shufL 3 [1, 2, 0] ks e).2)
  else if op = 124 then (true, (shufL 2 [1, 0] ks e).1, js, (shufL 2 [1, 0] ks e).2)
  else if op = 125 then (true, (shufL 2 [1, 0, 1] ks e).1, js, (shufL 2 [1, 0, 1] ks e).2)
  else (false, ks, js, e)
def ifdL (ks : BL) (e : Nat) : BL × Nat :=
  if needE ks.length 1 e = 0 ∧ truthL (lastB ks) = true then (ks ++ [lastB ks], 0) else (ks, needE ks.length 1 e)
def sizL (ks : BL) (e : Nat) : BL × Nat :=
  if needE ks.length 1 e = 0 then (ks ++ [enc ((lastB ks).length : Int)], 0) else (ks, needE ks.length 1 e)
def shaV (x : List UInt8) : List UInt8 := btl 32 (sha x)
def dblV (x : List UInt8) : List UInt8 := btl 32 (dbl x)
def redL (op : Nat) (ks : BL) (e : Nat) : Bool × BL × Nat :=
  if op = 121 then (true, deepL false ks e)
  else if op = 122 then (true, deepL true ks e)
  else if op = 105 then (true, (popL ks e).2.1, mustE (truthL (popL ks e).1) (popL ks e).2.2)
  else if op = 115 then (true, ifdL ks e)
  else if op = 116 then (true, ks ++ [enc (ks.length : Int)], e)
  else if op = 126 then (true, joinL ks e)
  else if op = 130 then (true, sizL ks e)
  else if op = 135 then (true, (alikL ks e).2.1 ++ [flagL (alikL ks e).1], (alikL ks e).2.2)
  else if op = 136 then (true, (alikL ks e).2.1, mustE (alikL ks e).1 (alikL ks e).2.2)
  else if op = 168 then (true, hashL shaV ks e)
  else if op = 170 then (true, hashL dblV ks e)
  else (false, ks, e)
def wthB (zs : List Int) : Bool := decide (zs.getD 1 0 ≤ zs.getD 0 0) && decide (zs.getD 0 0 < zs.getD 2 0)
def recL (op : Nat) (ks : BL) (e : Nat) : Bool × BL × Nat :=
  if op = 165 then (true, (opsL 3 ks e).2.1 ++ [flagL (wthB (opsL 3 ks e).1)], (opsL 3 ks e).2.2)
  else if (unL op 0).2 = true then (true, (opsL 1 ks e).2.1 ++ [enc (unL op ((opsL 1 ks e).1.getD 0 0)).1], (opsL 1 ks e).2.2)
  else if (binL op 0 0).2 = false then (false, ks, e)
  else if op = 157 then (true, (opsL 2 ks e).2.1, mustE (decide ((binL op ((opsL 2 ks e).1.getD 0 0) ((opsL 2 ks e).1.getD 1 0)).1 ≠ 0)) (opsL 2 ks e).2.2)
  else (true, (opsL 2 ks e).2.1 ++ [enc (binL op ((opsL 2 ks e).1.getD 0 0) ((opsL 2 ks e).1.getD 1 0)).1], (opsL 2 ks e).2.2)
def longB (ks : BL) : Bool := ks.any fun x => decide (520 < x.length)
def chkL (ks js : BL) : Nat := if longB ks = true ∨ longB js = true then 14 else if 100 < ks.length + js.length then 13 else 0
def donL (ks js : BL) (e : Nat) : BL × BL × Nat :=
  if (if e = 0 then chkL ks js else e) = 0 then (ks, js, 0) else ([], [], if e = 0 then chkL ks js else e)
def doL (op : Nat) (ks js : BL) : BL × BL × Nat :=
  let m := movL op ks js 0
  if m.1 = true then donL m.2.1 m.2.2.1 m.2.2.2
  else
    let r := redL op m.2.1 m.2.2.2
    if r.1 = true then donL r.2.1 m.2.2.1 r.2.2
    else
      let c := recL op r.2.1 r.2.2
      if c.1 = true then donL c.2.1 m.2.2.1 c.2.2 else ([], [], 10)
def OkN (B : Nat) (ks : BL) : Prop := ks.length ≤ B ∧ ∀ x ∈ ks, x.length ≤ B
theorem OkN.mono {B C : Nat} {ks : BL} (h : OkN B ks) (hbc : B ≤ C) : OkN C ks := ⟨Nat.le_trans h.1 hbc, fun x hx => Nat.le_trans (h.2 x hx) hbc⟩
theorem OkN.nil {B : Nat} : OkN B [] := ⟨Nat.zero_le _, fun x hx => by cases hx⟩
theorem OkN.snoc {B : Nat} {ks : BL} {x : List UInt8} (h : OkN B ks) (hx : x.length ≤ B) : OkN (B + 1) (ks ++ [x]) := by
  refine ⟨by have := h.1; simp; omega, fun y hy => ?_⟩
  rw [List.mem_append] at hy
  rcases hy with hy | hy
  · have := h.2 y hy; omega
  · obtain rfl := List.mem_singleton.1 hy; omega
theorem OkN.take {B : Nat} {ks : BL} (h : OkN B ks) (n : Nat) : OkN B (ks.take n) := ⟨by have := h.1; rw [List.length_take]; omega, fun x hx => h.2 x (List.mem_of_mem_take hx)⟩
theorem OkN.at {B : Nat} {ks : BL} (h : OkN B ks) (i : Nat) : (ks.getD i []).length ≤ B := by
  rw [List.getD_eq_getElem?_getD]
  cases hi : ks[i]? with
  | none => simp
  | some x => exact h.2 x (List.mem_of_getElem? hi)
theorem OkN.erase {B : Nat} {ks : BL} (h : OkN B ks) (n : Nat) : OkN B (ks.eraseIdx n) := ⟨by have := h.1; have := List.length_eraseIdx_le ks n; omega, fun x hx => h.2 x (List.mem_of_mem_eraseIdx hx)⟩
theorem pop_ok {B : Nat} {ks k1 : BL} {e e1 : Nat} {x : List UInt8} (h : OkN B ks) (hp : popL ks e = (x, k1, e1)) : OkN B k1 ∧ x.length ≤ B := by
  unfold popL at hp
  split at hp
  · obtain ⟨rfl, rfl, _⟩ : lastB ks = x ∧ ks.take (ks.length - 1) = k1 ∧ 0 = e1 := by simpa using hp
    exact ⟨h.take _, h.at _⟩
  · obtain ⟨rfl, rfl, _⟩ : [] = x ∧ ks = k1 ∧ _ = e1 := by simpa using hp
    exact ⟨h, Nat.zero_le _⟩
theorem map_ok {B n : Nat} {ks : BL} (h : OkN B ks) : ∀ (ps : List Nat), ∀ x ∈ ps.map (fun p => (ks.drop n).getD p []), x.length ≤ B := by
  intro ps x hx
  obtain ⟨p, _, rfl⟩ := List.mem_map.1 hx
  rw [List.getD_eq_getElem?_getD]
  cases hi : (ks.drop n)[p]? with
  | none => simp
  | some y => exact h.2 y (List.mem_of_mem_drop (List.mem_of_getElem? hi))
theorem shuf_ok {B n : Nat} {ps : List Nat} {ks k1 : BL} {e e1 : Nat} (h : OkN B ks) (hl : ps.length ≤ 6) (hp : shufL n ps ks e = (k1, e1)) : OkN (B + 6) k1 := by
  unfold shufL at hp
  split at hp
  · obtain ⟨rfl, _⟩ := Prod.mk.inj hp
    refine ⟨?_, fun x hx => ?_⟩
    · have := h.1; simp; omega
    · rw [List.mem_append] at hx
      rcases hx with hx | hx
      · have := h.2 x (List.mem_of_mem_take hx); omega
      · have := map_ok h ps x hx; omega
  · obtain ⟨rfl, _⟩ := Prod.mk.inj hp
    exact h.mono (by omega)
theorem deepR_ok {B : Nat} {r : Bool} {n : Int} {ks : BL} (h : OkN B ks) : OkN (B + 1) (deepR r n ks).1 := by
  unfold deepR
  split
  · exact h.mono (by omega)
  · refine OkN.snoc ?_ (h.at _)
    split
    · exact h.erase _
    · exact h
theorem deep_ok {B : Nat} {r : Bool} {ks k1 : BL} {e e1 : Nat} (h : OkN B ks) (hp : deepL r ks e = (k1, e1)) : OkN (B + 1) k1 := by
  obtain ⟨x, k2, e2, h1⟩ : ∃ a b c, popL ks e = (a, b, c) := ⟨_, _, _, rfl⟩
  have h2 := pop_ok h h1
  unfold deepL at hp
  rw [h1] at hp
  split at hp
  · have := deepR_ok (r := r) (n := (readL x 4 e2).1) h2.1
    rw [hp] at this
    exact this
  · obtain ⟨rfl, _⟩ := Prod.mk.inj hp
    exact h2.1.mono (by omega)
theorem join_ok {B : Nat} {ks k1 : BL} {e e1 : Nat} (h : OkN B ks) (hp : joinL ks e = (k1, e1)) : OkN (2 * B + 1) k1 := by
  unfold joinL at hp
  split at hp
  · obtain ⟨rfl, _⟩ := Prod.mk.inj hp
    refine OkN.snoc ((h.take _).mono (by omega)) ?_
    have h1 := h.at (ks.length - 2); have h2 := h.at (ks.length - 1)
    rw [List.length_append]; omega
  · obtain ⟨rfl, _⟩ := Prod.mk.inj hp
    exact h.mono (by omega)
theorem alik_ok {B : Nat} {ks k1 : BL} {b : Bool} {e e1 : Nat} (h : OkN B ks) (hp : alikL ks e = (b, k1, e1)) : OkN B k1 := by
  unfold alikL at hp
  split at hp
  · obtain ⟨_, rfl, _⟩ : _ ∧ ks.take (ks.length - 2) = k1 ∧ 0 = e1 := by simpa using hp
    exact h.take _
  · obtain ⟨_, rfl, _⟩ : _ ∧ ks = k1 ∧ _ = e1 := by simpa using hp
    exact h
theorem btl32 (f : Nat → Nat) : (btl 32 f).length = 32 := btl_len 32 f
theorem hash_ok {B : Nat} {f : List UInt8 → List UInt8} (hf : ∀ x, (f x).length = 32) {ks k1 : BL} {e e1 : Nat} (hB : 32 ≤ B) (h : OkN B ks) (hp : hashL f ks e = (k1, e1)) : OkN (B + 1) k1 := by
  unfold hashL at hp
  split at hp
  · obtain ⟨rfl, _⟩ := Prod.mk.inj hp
    exact OkN.snoc (h.take _) (by rw [hf]; exact hB)
  · obtain ⟨rfl, _⟩ := Prod.mk.inj hp
    exact h.mono (by omega)
theorem back_ok {B : Nat} {ks js k1 j1 : BL} {e e1 : Nat} (h : OkN B ks) (hj : OkN B js) (hp : backL ks js e = (k1, j1, e1)) : OkN (B + 1) k1 ∧ OkN B j1 := by
  unfold backL at hp
  split at hp
  · obtain ⟨rfl, rfl, _⟩ : ks = k1 ∧ js = j1 ∧ _ = e1 := by simpa using hp
    exact ⟨h.mono (by omega), hj⟩
  · obtain ⟨rfl, rfl, _⟩ : ks ++ [lastB js] = k1 ∧ js.take (js.length - 1) = j1 ∧ _ = e1 := by simpa using hp
    exact ⟨h.snoc (hj.at _), hj.take _⟩
theorem opsR_ok {B : Nat} : ∀ (n : Nat) {ks k1 : BL} {e e1 : Nat} {zs : List Int}, OkN B ks → opsR n ks e = (zs, k1, e1) → OkN B k1 ∧ zs.length = n ∧ ∀ z ∈ zs, -2147483648 < z ∧ z < 2147483648
  | 0, ks, k1, e, e1, zs, h, hp => by
    obtain ⟨rfl, rfl, _⟩ : [] = zs ∧ ks = k1 ∧ e = e1 := by simpa [opsR] using hp
    exact ⟨h, rfl, fun z hz => by cases hz⟩
  | n + 1, ks, k1, e, e1, zs, h, hp => by
    obtain ⟨x, k2, e2, h1⟩ : ∃ a b c, popL ks e = (a, b, c) := ⟨_, _, _, rfl⟩
    obtain ⟨v, e3, h2⟩ : ∃ a b, readL x 4 e2 = (a, b) := ⟨_, _, rfl⟩
    obtain ⟨ys, k3, e4, h3⟩ : ∃ a b c, opsR n k2 e3 = (a, b, c) := ⟨_, _, _, rfl⟩
    have h4 := pop_ok h h1
    have h5 := opsR_ok n h4.1 h3
    unfold opsR at hp
    simp only [h1, h2, h3, Prod.mk.injEq] at hp
    obtain ⟨rfl, rfl, _⟩ := hp
    refine ⟨h5.1, by simp [h5.2.1], fun z hz => ?_⟩
    rw [List.mem_append] at hz
    rcases hz with hz | hz
    · exact h5.2.2 z hz
    · obtain rfl := List.mem_singleton.1 hz
      unfold readL at h2
      split at h2
      · exact dec4 h2
      · obtain ⟨rfl, _⟩ := Prod.mk.inj h2; omega
theorem ops_ok {B n : Nat} {ks k1 : BL} {e e1 : Nat} {zs : List Int} (h : OkN B ks) (hp : opsL n ks e = (zs, k1, e1)) : OkN B k1 ∧ zs.length = n ∧ ∀ z ∈ zs, -2147483648 < z ∧ z < 2147483648 := by
  unfold opsL at hp
  split at hp
  · exact opsR_ok n h hp
  · obtain ⟨rfl, rfl, _⟩ : List.replicate n 0 = zs ∧ ks = k1 ∧ _ = e1 := by simpa using hp
    exact ⟨h, by simp, fun z hz => by rw [List.eq_of_mem_replicate hz]; omega⟩
theorem inj3 {α β γ : Type} {a a' : α} {b b' : β} {c c' : γ} (h : (a, b, c) = (a', b', c')) : a = a' ∧ b = b' ∧ c = c' := by simpa using h
theorem inj4 {α β γ δ : Type} {a a' : α} {b b' : β} {c c' : γ} {d d' : δ} (h : (a, b, c, d) = (a', b', c', d')) : a = a' ∧ b = b' ∧ c = c' ∧ d = d' := by simpa using h
theorem getD_of {ks : BL} {i : Nat} {y : List UInt8} (h : ks[i]? = some y) : ks.getD i [] = y := by rw [List.getD_eq_getElem?_getD, h]; rfl
theorem flagL_len (b : Bool) : (flagL b).length ≤ 1 := by cases b <;> decide
theorem mem_main {vs us xs : List Value} {ks js ts : BL} {p : Value × List UInt8} (hl : vs.length = ks.length) (h : p ∈ vs.zip ks) : p ∈ (vs ++ us ++ xs).zip (ks ++ js ++ ts) := by
  rw [List.append_assoc, List.append_assoc, List.zip_append hl]; exact List.mem_append_left _ h
theorem mem_alt {vs us xs : List Value} {ks js ts : BL} {p : Value × List UInt8} (hl : vs.length = ks.length) (hu : us.length = js.length) (h : p ∈ us.zip js) : p ∈ (vs ++ us ++ xs).zip (ks ++ js ++ ts) := by
  rw [zip3 hl hu]; exact List.mem_append_left _ (List.mem_append_right _ h)
theorem mem_last3 {vs us xs : List Value} {ks js ts : BL} {v : Value} {x : List UInt8} (h : (vs ++ us ++ (xs ++ [v])).length = (ks ++ js ++ (ts ++ [x])).length) : (v, x) ∈ (vs ++ us ++ (xs ++ [v])).zip (ks ++ js ++ (ts ++ [x])) := by
  have h1 : (vs ++ us ++ xs).length = (ks ++ js ++ ts).length := by simp only [List.length_append, List.length_cons, List.length_nil] at h ⊢; omega
  rw [← List.append_assoc (vs ++ us), ← List.append_assoc (ks ++ js), List.zip_append h1]
  exact List.mem_append_right _ (List.mem_singleton.2 rfl)
section
variable {a : Act} {w : World} {n : Nat} {w0 : Bs} {fs : List Sl} {bs : List Bl} {vs us xs : List Value} {ks js ts : BL} {G : Nat → Prop}
theorem St.poolAt (hs : St n w0 fs bs a w) (k : Nat) (h : w0.S[k]? = some (true, .bysO G (vs ++ us ++ xs) (ks ++ js ++ ts))) (hl : vs.length = ks.length) {i : Nat} {y : List UInt8} (hy : ks[i]? = some y) : ∃ ad c, vs[i]? = some (.slice ad y.length c) := by
  have hi := (List.getElem?_eq_some_iff.1 hy).1
  have hv : vs[i]? = some vs[i] := by simp [hl, hi]
  obtain ⟨ad, c, e⟩ := byv_slice (hs.itemZ h (mem_main hl (zip_get hv hy)))
  exact ⟨ad, c, by rw [hv, e]⟩
theorem St.poolAtA (hs : St n w0 fs bs a w) (k : Nat) (h : w0.S[k]? = some (true, .bysO G (vs ++ us ++ xs) (ks ++ js ++ ts))) (hl : vs.length = ks.length) (hu : us.length = js.length) {i : Nat} {y : List UInt8} (hy : js[i]? = some y) : ∃ ad c, us[i]? = some (.slice ad y.length c) := by
  have hi := (List.getElem?_eq_some_iff.1 hy).1
  have hv : us[i]? = some us[i] := by simp [hu, hi]
  obtain ⟨ad, c, e⟩ := byv_slice (hs.itemZ h (mem_alt hl hu (zip_get hv hy)))
  exact ⟨ad, c, by rw [hv, e]⟩
theorem St.pushB (hs : St n w0 fs bs a w) (k : Nat) {v : Value} {x : List UInt8} (hl : vs.length = ks.length) (hu : us.length = js.length) (h : w0.S[k]? = some (true, .bysO G ((vs ++ us ++ xs) ++ [v]) ((ks ++ js ++ ts) ++ [x]))) :
    St n (w0.withS (w0.S.set k (true, .bysO G ((vs ++ [v]) ++ us ++ xs) ((ks ++ [x]) ++ js ++ ts)))) fs bs a w := by
  have h0 := hs.bLen k h
  have h1 : (vs ++ us ++ xs).length = (ks ++ js ++ ts).length := by simp only [List.length_append, List.length_cons, List.length_nil] at h0 ⊢; omega
  refine hs.reB k h (by simp only [List.length_append, List.length_cons, List.length_nil] at h1 ⊢; omega) fun p hp => ?_
  rw [zip_snoc h1, zip3 hl hu]
  rw [zip3 (by simp [hl]) hu, zip_snoc hl] at hp
  simp only [List.mem_append] at hp ⊢
  rcases hp with ((h | h) | h) | h
  · exact .inl (.inl (.inl h))
  · exact .inr h
  · exact .inl (.inl (.inr h))
  · exact .inl (.inr h)
theorem St.popB (hs : St n w0 fs bs a w) (k : Nat) {v : Value} {x : List UInt8} {i j : Nat} (hl : vs.length = ks.length) (hu : us.length = js.length) (hv : vs[i]? = some v) (hx : ks[i]? = some x) (h : w0.S[k]? = some (true, .bysO G (vs ++ us ++ xs) (ks ++ js ++ ts))) :
    St n (w0.withS (w0.S.set k (true, .bysO G (vs.take j ++ us ++ (xs ++ [v])) (ks.take j ++ js ++ (ts ++ [x]))))) fs bs a w := by
  have h0 := hs.bLen k h
  refine hs.reB k h ?_ (zip_sub_left hl hu (by simp [hl]) (fun p hp => .inl (zip_take _ p hp)) fun p hp => ?_)
  · simp only [List.length_append, List.length_cons, List.length_nil, List.length_take] at h0 ⊢; omega
  · have h1 : xs.length = ts.length := by simp only [List.length_append] at h0; omega
    rw [zip_snoc h1, List.mem_append] at hp
    rcases hp with hp | hp
    · exact .inr (.inr hp)
    · obtain rfl := List.mem_singleton.1 hp
      exact .inl (zip_get hv hx)
theorem St.nilB (hs : St n w0 fs bs a w) (k : Nat) (h : w0.S[k]? = some (true, .bysO G (vs ++ us ++ xs) (ks ++ js ++ ts))) :
    St n (w0.withS (w0.S.set k (true, .bysO G (vs ++ us ++ (xs ++ [.slice none ([] : List UInt8).length 0])) (ks ++ js ++ (ts ++ [[]]))))) fs bs a w :=
  hs.conS k h (fun Z hz => ⟨by
    rw [← List.append_assoc (vs ++ us), ← List.append_assoc (ks ++ js)]
    exact bysv_snoc hz.1 byv_nil, hz.2⟩) (fun g hg => hg)
theorem St.cutB (hs : St n w0 fs bs a w) (k : Nat) {j : Nat} (hl : vs.length = ks.length) (hu : us.length = js.length) (h : w0.S[k]? = some (true, .bysO G (vs ++ us ++ xs) (ks ++ js ++ ts))) :
    St n (w0.withS (w0.S.set k (true, .bysO G (vs.take j ++ us ++ xs) (ks.take j ++ js ++ ts)))) fs bs a w := by
  have h0 := hs.bLen k h
  refine hs.reB k h ?_ (zip_sub_left hl hu (by simp [hl]) (fun p hp => .inl (zip_take _ p hp)) fun p hp => .inr (.inr hp))
  simp only [List.length_append, List.length_take] at h0 ⊢; omega
theorem St.eraB (hs : St n w0 fs bs a w) (k : Nat) {j : Nat} (hl : vs.length = ks.length) (hu : us.length = js.length) (h : w0.S[k]? = some (true, .bysO G (vs ++ us ++ xs) (ks ++ js ++ ts))) :
    St n (w0.withS (w0.S.set k (true, .bysO G (vs.eraseIdx j ++ us ++ xs) (ks.eraseIdx j ++ js ++ ts)))) fs bs a w := by
  have h0 := hs.bLen k h
  refine hs.reB k h ?_ (zip_sub_left hl hu (by simp [hl, List.length_eraseIdx]) (fun p hp => .inl (zip_erase _ hl p hp)) fun p hp => .inr (.inr hp))
  simp only [List.length_append, List.length_eraseIdx, hl] at h0 ⊢; omega
theorem St.addB (hs : St n w0 fs bs a w) (k : Nat) {v : Value} {x : List UInt8} {i : Nat} (hl : vs.length = ks.length) (hu : us.length = js.length) (hv : vs[i]? = some v) (hx : ks[i]? = some x) (h : w0.S[k]? = some (true, .bysO G (vs ++ us ++ xs) (ks ++ js ++ ts))) :
    St n (w0.withS (w0.S.set k (true, .bysO G (vs ++ us ++ (xs ++ [v])) (ks ++ js ++ (ts ++ [x]))))) fs bs a w := by
  have h1 := hs.popB (j := ks.length) k hl hu hv hx h
  rw [List.take_length, show ks.length = vs.length from hl.symm, List.take_length] at h1
  exact h1
theorem St.dropB (hs : St n w0 fs bs a w) (k : Nat) {zs : List Value} {rs : BL} (hx : xs.length = ts.length) (h : w0.S[k]? = some (true, .bysO G (vs ++ us ++ (xs ++ zs)) (ks ++ js ++ (ts ++ rs)))) (hl : vs.length = ks.length) (hu : us.length = js.length) :
    St n (w0.withS (w0.S.set k (true, .bysO G (vs ++ us ++ xs) (ks ++ js ++ ts)))) fs bs a w := by
  refine hs.reB k h (by simp [hl, hu, hx]) (zip_sub_left hl hu hl (fun p hp => .inl hp) fun p hp => .inr (.inr ?_))
  rw [List.zip_append hx]
  exact List.mem_append_left _ hp
theorem St.xsLen (hs : St n w0 fs bs a w) (k : Nat) {v : Value} {x : List UInt8} (h : w0.S[k]? = some (true, .bysO G (vs ++ us ++ (xs ++ [v])) (ks ++ js ++ (ts ++ [x])))) (hl : vs.length = ks.length) (hu : us.length = js.length) : xs.length = ts.length := by
  have h0 := hs.bLen k h
  simp only [List.length_append, List.length_cons, List.length_nil] at h0
  omega
theorem St.altB (hs : St n w0 fs bs a w) (k : Nat) {v : Value} {x : List UInt8} (hl : vs.length = ks.length) (hu : us.length = js.length) (h : w0.S[k]? = some (true, .bysO G (vs ++ us ++ (xs ++ [v])) (ks ++ js ++ (ts ++ [x])))) :
    St n (w0.withS (w0.S.set k (true, .bysO G (vs ++ (us ++ [v]) ++ xs) (ks ++ (js ++ [x]) ++ ts)))) fs bs a w := by
  have h0 := hs.bLen k h
  have h1 : xs.length = ts.length := by simp only [List.length_append, List.length_cons, List.length_nil] at h0; omega
  refine hs.reB k h (by simp only [List.length_append, List.length_cons, List.length_nil]; omega) fun p hp => ?_
  rw [zip3 hl hu, zip_snoc h1]
  rw [zip3 hl (by simp [hu]), zip_snoc hu] at hp
  simp only [List.mem_append] at hp ⊢
  rcases hp with (h | h | h) | h
  · exact .inl (.inl h)
  · exact .inl (.inr h)
  · exact .inr (.inr h)
  · exact .inr (.inl h)
theorem St.cutA (hs : St n w0 fs bs a w) (k : Nat) {j : Nat} (hl : vs.length = ks.length) (hu : us.length = js.length) (h : w0.S[k]? = some (true, .bysO G (vs ++ us ++ xs) (ks ++ js ++ ts))) :
    St n (w0.withS (w0.S.set k (true, .bysO G (vs ++ us.take j ++ xs) (ks ++ js.take j ++ ts)))) fs bs a w := by
  have h0 := hs.bLen k h
  refine hs.reB k h (by simp only [List.length_append, List.length_take] at h0 ⊢; omega) fun p hp => ?_
  rw [zip3 hl hu]
  rw [zip3 hl (by simp [hu])] at hp
  simp only [List.mem_append] at hp ⊢
  rcases hp with (h | h) | h
  · exact .inl (.inl h)
  · exact .inl (.inr (zip_take _ p h))
  · exact .inr h
end
theorem BysV.drop {w : World} {Z : Nat → Prop} {vs : List Value} {ks : BL} (h : BysV w Z vs ks) (i : Nat) : BysV w Z (vs.drop i) (ks.drop i) :=
  ⟨by simp [h.1], fun j v y hv hy => h.2 (i + j) v y (by simpa using hv) (by simpa using hy)⟩
section
variable {a : Act} {w : World} {n : Nat} {w0 : Bs} {fs : List Sl} {bs : List Bl} {vs us xs : List Value} {ks js ts : BL} {G : Nat → Prop}
theorem St.mainY (hs : St n w0 fs bs a w) (k : Nat) (h : w0.S[k]? = some (true, .bysO G (vs ++ us ++ xs) (ks ++ js ++ ts))) (hl : vs.length = ks.length) : BysV w (fun _ => True) vs ks := by
  have h1 := hs.rowB (.inl h)
  refine bysv_iff.2 ⟨hl, fun p hp => (bysv_iff.1 h1).2 p (mem_main hl hp)⟩
theorem St.mainOne (hs : St n w0 fs bs a w) (k : Nat) (h : w0.S[k]? = some (true, .bysO G (vs ++ us ++ xs) (ks ++ js ++ ts))) (hl : vs.length = ks.length) : ∀ u ∈ vs, u.oneCell' = true := bys_one (hs.mainY k h hl)
end
def intL (ps : List Nat) : List Value := ps.map fun (p : Nat) => .int .i64 (p : Int)
theorem intL_get {ps : List Nat} {i p : Nat} (h : ps[i]? = some p) : ldv false 1 (intL ps) i = some (.int .i64 (p : Int)) := by simp [ldv, intL, h]
def pickL (dk : BL) (ps : List Nat) : BL := ps.map fun p => dk.getD p []
theorem pickL_snoc {k0 dk : BL} {ps : List Nat} {i p : Nat} {y : List UInt8} (hp : ps[i]? = some p) (hy : dk[p]? = some y) : (k0 ++ pickL dk (ps.take i)) ++ [y] = k0 ++ pickL dk (ps.take (i + 1)) := by
  rw [List.append_assoc, List.take_add_one, hp]
  simp [pickL, ← getD_of hy]
theorem pick_ok {ks : BL} {n i : Nat} {ps : List Nat} (h : OkN 7000 ks) (hl : ps.length ≤ 6) : OkN 8000 (ks.take (ks.length - n) ++ pickL (ks.drop (ks.length - n)) (ps.take i)) := by
  refine ⟨?_, fun x hx => ?_⟩
  · have := h.1; simp [pickL]; omega
  · rw [List.mem_append] at hx
    rcases hx with hx | hx
    · have := h.2 x (List.mem_of_mem_take hx); omega
    · have := map_ok h _ x hx; omega
theorem OkN.drop {B : Nat} {ks : BL} (h : OkN B ks) (n : Nat) : OkN B (ks.drop n) := ⟨by have := h.1; rw [List.length_drop]; omega, fun x hx => h.2 x (List.mem_of_mem_drop hx)⟩
theorem shuf2 {ks k1 : BL} {e1 : Nat} {n : Nat} (h : n ≤ ks.length) (hp : shufL n [] ks 0 = (k1, e1)) : k1 = ks.take (ks.length - n) ∧ e1 = 0 := by
  unfold shufL at hp
  rw [if_pos (by unfold needE; rw [if_neg (by omega)])] at hp
  obtain ⟨rfl, rfl⟩ := Prod.mk.inj hp
  simp
theorem deep_no {r : Bool} {ks k1 : BL} {er e1 e2 : Nat} {x : List UInt8} {z : Int} (h : popL ks er = (x, k1, e1)) (hz : readL x 4 e1 = (z, e2)) (he : ¬ e2 = 0) : deepL r ks er = (k1, e2) := by
  unfold deepL
  simp only [h, hz, if_neg he]
theorem deep_far {r : Bool} {ks k1 : BL} {er e1 : Nat} {x : List UInt8} {z : Int} (h : popL ks er = (x, k1, e1)) (hz : readL x 4 e1 = (z, 0)) (hc : z < 0 ∨ (k1.length : Int) ≤ z) : deepL r ks er = (k1, 12) := by
  unfold deepL
  simp only [h, hz, if_pos]
  unfold deepR
  rw [if_pos hc]
theorem deep_at {r : Bool} {ks k1 : BL} {er e1 d : Nat} {x : List UInt8} (h : popL ks er = (x, k1, e1)) (hz : readL x 4 e1 = ((d : Int), 0)) (hd : d < k1.length) : deepL r ks er = ((if r = true then k1.eraseIdx (k1.length - 1 - d) else k1) ++ [k1.getD (k1.length - 1 - d) []], 0) := by
  unfold deepL
  simp only [h, hz, if_pos]
  unfold deepR
  rw [if_neg (by omega), Int.toNat_natCast]
theorem pop_at {ks : BL} (h : 1 ≤ ks.length) : popL ks 0 = (lastB ks, ks.take (ks.length - 1), 0) := by
  unfold popL
  rw [if_pos (by unfold needE; rw [if_neg (by omega)])]
theorem opsR_step {n : Nat} {ks k1 : BL} {er e1 e2 : Nat} {x : List UInt8} {z : Int} (h : popL ks er = (x, k1, e1)) (hz : readL x 4 e1 = (z, e2)) : opsR (n + 1) ks er = ((opsR n k1 e2).1 ++ [z], (opsR n k1 e2).2) := by
  rw [opsR]
  simp only [h, hz]
theorem ops_end {n : Nat} {ks kk : BL} {er ee : Nat} {zs : List Int} (h : needE ks.length n er = 0) (ho : opsR n ks 0 = ((opsR 0 kk ee).1 ++ zs, (opsR 0 kk ee).2)) : opsL n ks er = (zs, kk, ee) := by
  unfold opsL
  rw [if_pos h, ho]
  rfl
theorem ifd_no {ks : BL} {er : Nat} (h : ¬ needE ks.length 1 er = 0) : ifdL ks er = (ks, needE ks.length 1 er) := if_neg fun h2 => h h2.1
theorem ifd_un {ks : BL} {er : Nat} {y : List UInt8} (hy : lastB ks = y) (h : truthL y = false) : ifdL ks er = (ks, needE ks.length 1 er) := if_neg fun h2 => by rw [hy, h] at h2; exact absurd h2.2 (by decide)
theorem ifd_yes {ks : BL} {er : Nat} {y : List UInt8} (h0 : needE ks.length 1 er = 0) (hy : lastB ks = y) (h : truthL y = true) : ifdL ks er = (ks ++ [y], 0) := by
  unfold ifdL
  rw [hy, if_pos ⟨h0, h⟩]
theorem siz_no {ks : BL} {er : Nat} (h : ¬ needE ks.length 1 er = 0) : sizL ks er = (ks, needE ks.length 1 er) := if_neg h
theorem siz_yes {ks : BL} {er : Nat} {y : List UInt8} (h0 : needE ks.length 1 er = 0) (hy : lastB ks = y) : sizL ks er = (ks ++ [enc ((y.length : Nat) : Int)], 0) := by
  unfold sizL
  rw [hy, if_pos h0]
theorem wth_yes {x y z : Int} (h : y ≤ x) : wthB [x, y, z] = decide (x < z) := by
  show (decide (y ≤ x) && decide (x < z)) = decide (x < z)
  rw [decide_eq_true h]; rfl
theorem wth_no {x y z : Int} (h : ¬ y ≤ x) : wthB [x, y, z] = false := by
  show (decide (y ≤ x) && decide (x < z)) = false
  rw [decide_eq_false h]; rfl
theorem unL_bd {op : Nat} {x z : Int} {q : Bool} (h : -2147483648 < x ∧ x < 2147483648) (hp : unL op x = (z, q)) : -4294967296 < z ∧ z < 4294967296 := by
  unfold unL truI at hp
  (repeat' split at hp) <;> (obtain ⟨rfl, _⟩ := Prod.mk.inj hp; omega)
theorem binL_bd {op : Nat} {x y z : Int} {q : Bool} (h : -2147483648 < x ∧ x < 2147483648) (h2 : -2147483648 < y ∧ y < 2147483648) (hp : binL op x y = (z, q)) : -4294967296 < z ∧ z < 4294967296 := by
  unfold binL truI at hp
  (repeat' split at hp) <;> (obtain ⟨rfl, _⟩ := Prod.mk.inj hp; omega)
theorem St.altY {a : Act} {w : World} {n : Nat} {w0 : Bs} {fs : List Sl} {bs : List Bl} {vs us xs : List Value} {ks js ts : BL} {G : Nat → Prop} (hs : St n w0 fs bs a w) (k : Nat) (h : w0.S[k]? = some (true, .bysO G (vs ++ us ++ xs) (ks ++ js ++ ts))) (hl : vs.length = ks.length) (hu : us.length = js.length) : BysV w (fun _ => True) us js :=
  bysv_iff.2 ⟨hu, fun p hp => (bysv_iff.1 (hs.rowB (.inl h))).2 p (mem_alt hl hu hp)⟩
theorem St.merge3 {a : Act} {w : World} {n : Nat} {w0 : Bs} {fs : List Sl} {bs : List Bl} {vs us : List Value} {ks js : BL} {G H : Nat → Prop} (hs : St n w0 fs bs a w) (k kp : Nat) (hkk : k ≠ kp) (h : w0.S[k]? = some (true, .bysO G vs ks)) (hp : w0.S[kp]? = some (true, .bysO H us js)) :
    St n (w0.withS ((w0.S.set k (true, .bysO (GV G H) (vs ++ us ++ []) (ks ++ js ++ []))).set kp (false, .bys [] []))) fs bs a w := by
  rw [List.append_nil, List.append_nil]
  exact hs.mergeB k kp hkk h hp
def popS (ks js : BL) : List UInt8 × BL × BL × Nat := if (popL ks 0).2.2 = 0 then ((popL ks 0).1, (popL ks 0).2.1, js, 0) else ((popL ks 0).1, [], [], (popL ks 0).2.2)
def popN (most : Int) (ks js : BL) : Int × BL × BL × Nat :=
  if (readL (popL ks 0).1 most (popL ks 0).2.2).2 = 0 then ((readL (popL ks 0).1 most (popL ks 0).2.2).1, (popL ks 0).2.1, js, 0) else (0, [], [], (readL (popL ks 0).1 most (popL ks 0).2.2).2)
def pushS (b : List UInt8) (ks js : BL) : BL × BL × Nat := donL (ks ++ [b]) js 0
theorem mov_ok {B op : Nat} {ks js k1 j1 : BL} {e e1 : Nat} {q : Bool} (h : OkN B ks) (hj : OkN B js) (hp : movL op ks js e = (q, k1, j1, e1)) : OkN (B + 6) k1 ∧ OkN (B + 6) j1 := by
  have hs : ∀ n ps, ps.length ≤ 6 → OkN (B + 6) (shufL n ps ks e).1 := fun n ps hl => shuf_ok (e1 := (shufL n ps ks e).2) h hl rfl
  have hpo := pop_ok (x := (popL ks e).1) (k1 := (popL ks e).2.1) (e1 := (popL ks e).2.2) h rfl
  have hb := back_ok (k1 := (backL ks js e).1) (j1 := (backL ks js e).2.1) (e1 := (backL ks js e).2.2) h hj rfl
  unfold movL at hp
  by_cases c : op = 97
  · rw [if_pos c] at hp
    obtain ⟨_, rfl, rfl, _⟩ := inj4 (show (_, _, _, _) = (_, _, _, _) from hp)
    exact ⟨h.mono (Nat.le_add_right _ _), (hj.mono (Nat.le_add_right _ _))⟩
  rw [if_neg c] at hp
  clear c
  by_cases c : op = 107
  · rw [if_pos c] at hp
    obtain ⟨_, rfl, rfl, _⟩ := inj4 (show (_, _, _, _) = (_, _, _, _) from hp)
    exact ⟨hpo.1.mono (Nat.le_add_right _ _), (hj.snoc hpo.2).mono (Nat.add_le_add_left (by decide) _)⟩
  rw [if_neg c] at hp
  clear c
  by_cases c : op = 108
  · rw [if_pos c] at hp
    obtain ⟨_, rfl, rfl, _⟩ := inj4 (show (_, _, _, _) = (_, _, _, _) from hp)
    exact ⟨hb.1.mono (Nat.add_le_add_left (by decide) _), hb.2.mono (Nat.le_add_right _ _)⟩
  rw [if_neg c] at hp
  clear c
  by_cases c : op = 109
  · rw [if_pos c] at hp
    obtain ⟨_, rfl, rfl, _⟩ := inj4 (show (_, _, _, _) = (_, _, _, _) from hp)
    exact ⟨hs 2 [] (by decide), (hj.mono (Nat.le_add_right _ _))⟩
  rw [if_neg c] at hp
  clear c
  by_cases c : op = 110
  · rw [if_pos c] at hp
    obtain ⟨_, rfl, rfl, _⟩ := inj4 (show (_, _, _, _) = (_, _, _, _) from hp)
    exact ⟨hs 2 [0, 1, 0, 1] (by decide), (hj.mono (Nat.le_add_right _ _))⟩
  rw [if_neg c] at hp
  clear c
  by_cases c : op = 111
  · rw [if_pos c] at hp
    obtain ⟨_, rfl, rfl, _⟩ := inj4 (show (_, _, _, _) = (_, _, _, _) from hp)
    exact ⟨hs 3 [0, 1, 2, 0, 1, 2] (by decide), (hj.mono (Nat.le_add_right _ _))⟩
  rw [if_neg c] at hp
  clear c
  by_cases c : op = 112
  · rw [if_pos c] at hp
    obtain ⟨_, rfl, rfl, _⟩ := inj4 (show (_, _, _, _) = (_, _, _, _) from hp)
    exact ⟨hs 4 [0, 1, 2, 3, 0, 1] (by decide), (hj.mono (Nat.le_add_right _ _))⟩
  rw [if_neg c] at hp
  clear c
  by_cases c : op = 113
  · rw [if_pos c] at hp
    obtain ⟨_, rfl, rfl, _⟩ := inj4 (show (_, _, _, _) = (_, _, _, _) from hp)
    exact ⟨hs 6 [2, 3, 4, 5, 0, 1] (by decide), (hj.mono (Nat.le_add_right _ _))⟩
  rw [if_neg c] at hp
  clear c
  by_cases c : op = 114
  · rw [if_pos c] at hp
    obtain ⟨_, rfl, rfl, _⟩ := inj4 (show (_, _, _, _) = (_, _, _, _) from hp)
    exact ⟨hs 4 [2, 3, 0, 1] (by decide), (hj.mono (Nat.le_add_right _ _))⟩
  rw [if_neg c] at hp
  clear c
  by_cases c : op = 117
  · rw [if_pos c] at hp
    obtain ⟨_, rfl, rfl, _⟩ := inj4 (show (_, _, _, _) = (_, _, _, _) from hp)
    exact ⟨hs 1 [] (by decide), (hj.mono (Nat.le_add_right _ _))⟩
  rw [if_neg c] at hp
  clear c
  by_cases c : op = 118
  · rw [if_pos c] at hp
    obtain ⟨_, rfl, rfl, _⟩ := inj4 (show (_, _, _, _) = (_, _, _, _) from hp)
    exact ⟨hs 1 [0, 0] (by decide), (hj.mono (Nat.le_add_right _ _))⟩
  rw [if_neg c] at hp
  clear c
  by_cases c : op = 119
  · rw [if_pos c] at hp
    obtain ⟨_, rfl, rfl, _⟩ := inj4 (show (_, _, _, _) = (_, _, _, _) from hp)
    exact ⟨hs 2 [1] (by decide), (hj.mono (Nat.le_add_right _ _))⟩
  rw [if_neg c] at hp
  clear c
  by_cases c : op = 120
  · rw [if_pos c] at hp
    obtain ⟨_, rfl, rfl, _⟩ := inj4 (show (_, _, _, _) = (_, _, _, _) from hp)
    exact ⟨hs 2 [0, 1, 0] (by decide), (hj.mono (Nat.le_add_right _ _))⟩
  rw [if_neg c] at hp
  clear c
  by_cases c : op = 123
  · rw [if_pos c] at hp
    obtain ⟨_, rfl, rfl, _⟩ := inj4 (show (_, _, _, _) = (_, _, _, _) from hp)
    exact ⟨hs 3 [1, 2, 0] (by decide), (hj.mono (Nat.le_add_right _ _))⟩
  rw [if_neg c] at hp
  clear c
  by_cases c : op = 124
  · rw [if_pos c] at hp
    obtain ⟨_, rfl, rfl, _⟩ := inj4 (show (_, _, _, _) = (_, _, _, _) from hp)
    exact ⟨hs 2 [1, 0] (by decide), (hj.mono (Nat.le_add_right _ _))⟩
  rw [if_neg c] at hp
  clear c
  by_cases c : op = 125
  · rw [if_pos c] at hp
    obtain ⟨_, rfl, rfl, _⟩ := inj4 (show (_, _, _, _) = (_, _, _, _) from hp)
    exact ⟨hs 2 [1, 0, 1] (by decide), (hj.mono (Nat.le_add_right _ _))⟩
  rw [if_neg c] at hp
  clear c
  obtain ⟨_, rfl, rfl, _⟩ := inj4 (show (_, _, _, _) = (_, _, _, _) from hp)
  exact ⟨h.mono (Nat.le_add_right _ _), (hj.mono (Nat.le_add_right _ _))⟩
theorem red_ok {B op : Nat} {ks k1 : BL} {e e1 : Nat} {q : Bool} (hB : 32 ≤ B) (hB2 : B ≤ 8000) (h : OkN B ks) (hp : redL op ks e = (q, k1, e1)) : OkN (2 * B + 1) k1 := by
  have hpo := pop_ok (x := (popL ks e).1) (k1 := (popL ks e).2.1) (e1 := (popL ks e).2.2) h rfl
  have hd := fun r => deep_ok (r := r) (k1 := (deepL r ks e).1) (e1 := (deepL r ks e).2) h rfl
  have hj := join_ok (k1 := (joinL ks e).1) (e1 := (joinL ks e).2) h rfl
  have ha := alik_ok (b := (alikL ks e).1) (k1 := (alikL ks e).2.1) (e1 := (alikL ks e).2.2) h rfl
  have hh1 := hash_ok (f := shaV) (fun _ => btl32 _) (k1 := (hashL shaV ks e).1) (e1 := (hashL shaV ks e).2) hB h rfl
  have hh2 := hash_ok (f := dblV) (fun _ => btl32 _) (k1 := (hashL dblV ks e).1) (e1 := (hashL dblV ks e).2) hB h rfl
  have hen : ∀ n : Nat, n ≤ 8000 → (enc (n : Int)).length ≤ B := fun n hn => Nat.le_trans (enc_len (by omega) (by omega)) (by omega)
  have hif : OkN (B + 1) (ifdL ks e).1 := by
    unfold ifdL
    split
    · exact h.snoc (h.at _)
    · exact h.mono (by omega)
  have hsi : OkN (B + 1) (sizL ks e).1 := by
    unfold sizL
    split
    · exact h.snoc (hen _ (Nat.le_trans (h.at _) hB2))
    · exact h.mono (by omega)
  unfold redL at hp
  by_cases c : op = 121
  · rw [if_pos c] at hp
    obtain ⟨_, rfl, _⟩ := inj3 (show (_, _, _) = (_, _, _) from hp)
    exact (hd false).mono (by omega)
  rw [if_neg c] at hp
  clear c
  by_cases c : op = 122
  · rw [if_pos c] at hp
    obtain ⟨_, rfl, _⟩ := inj3 (show (_, _, _) = (_, _, _) from hp)
    exact (hd true).mono (by omega)
  rw [if_neg c] at hp
  clear c
  by_cases c : op = 105
  · rw [if_pos c] at hp
    obtain ⟨_, rfl, _⟩ := inj3 (show (_, _, _) = (_, _, _) from hp)
    exact hpo.1.mono (by omega)
  rw [if_neg c] at hp
  clear c
  by_cases c : op = 115
  · rw [if_pos c] at hp
    obtain ⟨_, rfl, _⟩ := inj3 (show (_, _, _) = (_, _, _) from hp)
    exact hif.mono (by omega)
  rw [if_neg c] at hp
  clear c
  by_cases c : op = 116
  · rw [if_pos c] at hp
    obtain ⟨_, rfl, _⟩ := inj3 (show (_, _, _) = (_, _, _) from hp)
    exact (h.snoc (hen _ (Nat.le_trans h.1 hB2))).mono (by omega)
  rw [if_neg c] at hp
  clear c
  by_cases c : op = 126
  · rw [if_pos c] at hp
    obtain ⟨_, rfl, _⟩ := inj3 (show (_, _, _) = (_, _, _) from hp)
    exact hj
  rw [if_neg c] at hp
  clear c
  by_cases c : op = 130
  · rw [if_pos c] at hp
    obtain ⟨_, rfl, _⟩ := inj3 (show (_, _, _) = (_, _, _) from hp)
    exact hsi.mono (by omega)
  rw [if_neg c] at hp
  clear c
  by_cases c : op = 135
  · rw [if_pos c] at hp
    obtain ⟨_, rfl, _⟩ := inj3 (show (_, _, _) = (_, _, _) from hp)
    exact (ha.snoc (Nat.le_trans (flagL_len _) (by omega))).mono (by omega)
  rw [if_neg c] at hp
  clear c
  by_cases c : op = 136
  · rw [if_pos c] at hp
    obtain ⟨_, rfl, _⟩ := inj3 (show (_, _, _) = (_, _, _) from hp)
    exact ha.mono (by omega)
  rw [if_neg c] at hp
  clear c
  by_cases c : op = 168
  · rw [if_pos c] at hp
    obtain ⟨_, rfl, _⟩ := inj3 (show (_, _, _) = (_, _, _) from hp)
    exact hh1.mono (by omega)
  rw [if_neg c] at hp
  clear c
  by_cases c : op = 170
  · rw [if_pos c] at hp
    obtain ⟨_, rfl, _⟩ := inj3 (show (_, _, _) = (_, _, _) from hp)
    exact hh2.mono (by omega)
  rw [if_neg c] at hp
  clear c
  obtain ⟨_, rfl, _⟩ := inj3 (show (_, _, _) = (_, _, _) from hp)
  exact h.mono (by omega)
theorem rec_ok {B op : Nat} {ks k1 : BL} {e e1 : Nat} {q : Bool} (hB : 32 ≤ B) (h : OkN B ks) (hp : recL op ks e = (q, k1, e1)) : OkN (B + 1) k1 := by
  have ho := fun n => ops_ok (n := n) (zs := (opsL n ks e).1) (k1 := (opsL n ks e).2.1) (e1 := (opsL n ks e).2.2) h rfl
  have hz : ∀ n i, -2147483648 < (opsL n ks e).1.getD i 0 ∧ (opsL n ks e).1.getD i 0 < 2147483648 := fun n i => by
    rw [List.getD_eq_getElem?_getD]
    cases hi : (opsL n ks e).1[i]? with
    | none => simp
    | some z => exact (ho n).2.2 z (List.mem_of_getElem? hi)
  have hen : ∀ z : Int, -4294967296 < z ∧ z < 4294967296 → (enc z).length ≤ B := fun z hz => Nat.le_trans (enc_len (by omega) (by omega)) (by omega)
  have hu := hen _ (unL_bd (op := op) (z := (unL op ((opsL 1 ks e).1.getD 0 0)).1) (q := (unL op ((opsL 1 ks e).1.getD 0 0)).2) (hz 1 0) rfl)
  have hb := hen _ (binL_bd (op := op) (z := (binL op ((opsL 2 ks e).1.getD 0 0) ((opsL 2 ks e).1.getD 1 0)).1) (q := (binL op ((opsL 2 ks e).1.getD 0 0) ((opsL 2 ks e).1.getD 1 0)).2) (hz 2 0) (hz 2 1) rfl)
  unfold recL at hp
  by_cases c : op = 165
  · rw [if_pos c] at hp
    obtain ⟨_, rfl, _⟩ := inj3 (show (_, _, _) = (_, _, _) from hp)
    exact (ho 3).1.snoc (Nat.le_trans (flagL_len _) (by omega))
  rw [if_neg c] at hp
  by_cases c1 : (unL op 0).2 = true
  · rw [if_pos c1] at hp
    obtain ⟨_, rfl, _⟩ := inj3 (show (_, _, _) = (_, _, _) from hp)
    exact (ho 1).1.snoc hu
  rw [if_neg c1] at hp
  by_cases c2 : (binL op 0 0).2 = false
  · rw [if_pos c2] at hp
    obtain ⟨_, rfl, _⟩ := inj3 (show (_, _, _) = (_, _, _) from hp)
    exact h.mono (by omega)
  rw [if_neg c2] at hp
  by_cases c3 : op = 157
  · rw [if_pos c3] at hp
    obtain ⟨_, rfl, _⟩ := inj3 (show (_, _, _) = (_, _, _) from hp)
    exact (ho 2).1.mono (by omega)
  rw [if_neg c3] at hp
  obtain ⟨_, rfl, _⟩ := inj3 (show (_, _, _) = (_, _, _) from hp)
  exact (ho 2).1.snoc hb
theorem len1 {zs : List Int} (h : zs.length = 1) : ∃ z0, zs = [z0] := List.length_eq_one_iff.1 h
theorem len2 {zs : List Int} (h : zs.length = 2) : ∃ z0 z1, zs = [z0, z1] := by
  match zs, h with
  | [a, b], _ => exact ⟨a, b, rfl⟩
theorem len3 {zs : List Int} (h : zs.length = 3) : ∃ z0 z1 z2, zs = [z0, z1, z2] := by
  match zs, h with
  | [a, b, c], _ => exact ⟨a, b, c, rfl⟩
theorem un_neg {P : Program} {x : Int} (h1 : -2147483649 < x) (h2 : x < 2147483649) (w : World) : (Op.unary .neg (.int .i64 x)).run P w = .ok (.int .i64 (-x)) w := by
  have : IntKind.i64.wrap (-x) = -x := by unfold IntKind.wrap; simp [IntKind.signed, IntKind.bits]; omega
  simp [Op.unary, Op.intArith, this]
theorem take_snocB {ks : BL} {i : Nat} {y : List UInt8} (h : ks[i]? = some y) : ks.take i ++ [y] = ks.take (i + 1) := by
  rw [List.take_add_one, h]; rfl
theorem longB_snoc (ks : BL) (y : List UInt8) : longB (ks ++ [y]) = (longB ks || decide (520 < y.length)) := by simp [longB]
theorem longB_yes {ks : BL} {i : Nat} {y : List UInt8} (h : ks[i]? = some y) (hy : 520 < y.length) : longB ks = true := by
  unfold longB
  rw [List.any_eq_true]
  exact ⟨y, List.mem_of_getElem? h, by simpa using hy⟩
theorem longB_go {ks : BL} {i : Nat} {y : List UInt8} (h : ks[i]? = some y) (hy : ¬ 520 < y.length) (h0 : longB (ks.take i) = false) : longB (ks.take (i + 1)) = false := by
  rw [← take_snocB h, longB_snoc, h0, decide_eq_false hy]; rfl
theorem longB_end {ks : BL} {i : Nat} (h : ¬ i < ks.length) (h0 : longB (ks.take i) = false) : longB ks = false := by
  rwa [List.take_of_length_le (by omega)] at h0
theorem need_len {N n e : Nat} (h : needE N n e = 0) : n ≤ N ∧ e = 0 := by
  unfold needE failE at h
  split at h
  · split at h
    · cases h
    · rename_i h0; exact absurd h h0
  · exact ⟨by omega, h⟩
end Go.Proofs.Ytikkhkjndbicgaa

/- The contracts of package bytes. -/
namespace Go.Proofs.Ytikkhkjndbicgaa
open Go.RowKit
set_option maxRecDepth 10000
theorem inf_i64_2 : Inf Try.prog 2 (.int .i64 0) 1 8 := inf_of (by kernel_rfl)
theorem inf_i64_3 : Inf Try.prog 3 (.int .i64 0) 1 8 := inf_of (by kernel_rfl)
theorem inf_u8_5 : Inf Try.prog 5 (.int .u8 0) 1 1 := inf_of (by kernel_rfl)
theorem bequal_c (a1 : Option Addr) (nl c1 : Nat) (l : List UInt8) (a2 : Option Addr) (nk c2 : Nat) (k : List UInt8) (q : Bool) (hq : decide (l = k) = q) (w0 : World) (Z : Nat → Prop) (hl : ByV w0 Z (.slice a1 nl c1) l) (hk : ByV w0 Z (.slice a2 nk c2) k): Calls Try.prog 67 #[.slice a1 nl c1, .slice a2 nk c2] w0 fun e w' => Ret w0 Z (ρ := Unit) (fun r => .bool q) (fun r => []) e w' := by
  obtain rfl := byv_len hl
  obtain rfl := byv_len hk
  refine enterS (n := 10) (args := [.slice a1 l.length c1, .slice a2 k.length c2]) (S := [(true, .cel (.slice a1 l.length c1) l.length (bcs l)), (true, .cel (.slice a2 k.length c2) k.length (bcs k))]) (Z := Z) Try.func67 rfl rfl (Nat.le_of_ble_eq_true rfl) (sokC hl (sokC hk sok0)) rfl fun ac hs => ?_
  refine wp_seq ?_
  refine wp_region_lit ?_
  refine lstep (wpO_plain rfl (op_assign hs none rfl rfl rfl rfl fun ac hs => ?_))
  refine wpList_nil ?_
  refine then_n ?_
  refine wp_seq ?_
  refine wp_region_lit ?_
  refine lstep (wpO_plain rfl (op_move hs none rfl rfl rfl rfl fun ac hs => ?_))
  refine lstep (wpO_plain rfl (op_convBS hs none 0 rfl rfl rfl rfl rfl Try.underlying34 Try.underlying5 Try.underlying9 rfl fun ac hs => ?_))
  refine lstep (wpO_plain rfl (op_move hs none rfl rfl rfl rfl fun ac hs => ?_))
  refine lstep (wpO_plain rfl (op_convBS hs none 1 rfl rfl rfl rfl rfl Try.underlying34 Try.underlying5 Try.underlying9 rfl fun ac hs => ?_))
  refine lstep (wpO_plain rfl (op_bin hs none (v := .bool (decide (l = k))) rfl rfl rfl rfl (fun _ => rfl) (bin_eqlT rfl) rfl fun ac hs => ?_))
  refine lstep (wpO_plain rfl (op_assign hs none rfl rfl rfl rfl fun ac hs => ?_))
  refine wpList_nil ?_
  refine then_n ?_
  refine wp_ret ?_
  exact bodyPost_ret (res1 rfl (rv_t hs rfl)) hs.defers ⟨(), by rw [← hq], hs.bel rfl, okl0⟩
end Go.Proofs.Ytikkhkjndbicgaa

/- SHA-256: the program's, the document's. -/
namespace Go.Proofs.Ytikkhkjndbicgaa
open Go.RowKit
set_option maxRecDepth 10000
set_option maxHeartbeats 1000000
theorem rot_c (x n r : Nat) (hx : x < 4294967296) (hn : 0 < n) (hn2 : n < 32) (hr : rr x n = r) (w0 : World) : Calls Try.prog 86 #[.int .u32 ((x : Nat) : Int), .int .i64 (-(n : Int))] w0 fun e w' => e = .returned (.int .u32 ((r : Nat) : Int)) ∧ Below w0.heap.size w0 w' := by
  refine enter (n := 17) (args := [.int .u32 ((x : Nat) : Int), .int .i64 (-(n : Int))]) Try.func86 rfl rfl (Nat.le_of_ble_eq_true rfl) fun ac hs => ?_
  refine wp_seq ?_
  refine wp_region_lit ?_
  refine lstep (wpO_plain rfl (op_assign hs none rfl rfl rfl rfl fun ac hs => ?_))
  refine wpList_nil ?_
  refine then_n ?_
  refine wp_seq ?_
  refine wp_region_lit ?_
  refine lstep (wpO_plain rfl (op_move hs none rfl rfl rfl rfl fun ac hs => ?_))
  refine lstep (wpO_plain rfl (op_convert hs none (v := .int .u64 ((18446744073709551616 - n : Nat) : Int)) rfl rfl rfl (conv_neg64 Try.underlying3 Try.underlying87 hn (by omega)) rfl fun ac hs => ?_))
  refine lstep (wpO_plain rfl (op_bin hs none (v := .int .u64 ((32 - n : Nat) : Int)) rfl rfl rfl rfl (fun _ => rfl) (bin_andN (x := 18446744073709551616 - n) (y := 31) (z := 32 - n) (and31 hn hn2) (show 18446744073709551616 - n < 18446744073709551616 by omega) (by decide) (show 32 - n < 18446744073709551616 by omega)) rfl fun ac hs => ?_))
  refine lstep (wpO_plain rfl (op_assign hs none rfl rfl rfl rfl fun ac hs => ?_))
  refine wpList_nil ?_
  refine then_n ?_
  refine wp_seq ?_
  refine wp_region_lit ?_
  refine lstep (wpO_plain rfl (op_move hs none rfl rfl rfl rfl fun ac hs => ?_))
  refine lstep (wpO_plain rfl (op_move hs none rfl rfl rfl rfl fun ac hs => ?_))
  refine lstep (wpO_plain rfl (op_bin hs none (v := .int .u32 ((x * 2 ^ (32 - n) % 4294967296 : Nat) : Int)) rfl rfl rfl rfl (fun _ => rfl) (bin_shlM (x := x) (y := 32 - n) (z := x * 2 ^ (32 - n) % 4294967296) rfl rfl) rfl fun ac hs => ?_))
  refine lstep (wpO_plain rfl (op_move hs none rfl rfl rfl rfl fun ac hs => ?_))
  refine lstep (wpO_plain rfl (op_move hs none rfl rfl rfl rfl fun ac hs => ?_))
  refine lstep (wpO_plain rfl (op_bin hs none (v := .int .u64 ((n : Nat) : Int)) rfl rfl rfl rfl (fun _ => rfl) (bin_subN (x := 32) (y := 32 - n) (z := n) (by omega) (show n < 18446744073709551616 by omega)) rfl fun ac hs => ?_))
  refine lstep (wpO_plain rfl (op_bin hs none (v := .int .u32 ((x / 2 ^ n : Nat) : Int)) rfl rfl rfl rfl (fun _ => rfl) (bin_shrN (x := x) (y := n) (z := x / 2 ^ n) rfl hx) rfl fun ac hs => ?_))
  refine lstep (wpO_plain rfl (op_bin hs none (v := .int .u32 ((rr x n : Nat) : Int)) rfl rfl rfl rfl (fun _ => rfl) (bin_orN (x := x * 2 ^ (32 - n) % 4294967296) (y := x / 2 ^ n) (z := rr x n) (Nat.or_comm _ _) (m32 _) (Nat.lt_of_le_of_lt (Nat.div_le_self _ _) hx) (rr_lt hx)) rfl fun ac hs => ?_))
  refine lstep (wpO_plain rfl (op_assign hs none rfl rfl rfl rfl fun ac hs => ?_))
  refine wpList_nil ?_
  refine then_n ?_
  refine wp_ret ?_
  exact bodyPost_ret (res1 rfl (rv_t hs rfl)) hs.defers ⟨by rw [hr], (hs.bel rfl)⟩
theorem firsts_c  (w0 : World) : Calls Try.prog 79 #[] w0 fun e w' => e = .returned (At .u32 8 HH0) ∧ Below w0.heap.size w0 w' := by
  refine enter (n := 2) (args := []) Try.func79 rfl rfl (Nat.le_of_ble_eq_true rfl) fun ac hs => ?_
  refine wp_seq ?_
  refine wp_region_lit ?_
  refine lstep (wpO_plain rfl (op_alloc hs none none (cs := (tab .u32 8 (fun _ => 0))) rfl rfl Try.zeroValue101 (by kernel_rfl) rfl rfl fun g1 ac w hs => ?_))
  refine wpList_nil ?_
  refine then_n ?_
  refine wp_seq ?_
  refine wp_region_lit ?_
  refine lstep (wpO_plain rfl (op_build hs none (qs := [(0, .int .u32 1779033703), (1, .int .u32 3144134277), (2, .int .u32 1013904242), (3, .int .u32 2773480762), (4, .int .u32 1359893119), (5, .int .u32 2600822924), (6, .int .u32 528734635), (7, .int .u32 1541459225)]) (v := At .u32 8 HH0) rfl rfl rfl rfl (fun _ => by kernel_rfl) rfl fun ac hs => ?_))
  refine lstep (wpO_plain rfl (op_store hs 0 (vs := (tab .u32 8 HH0)) rfl rfl rfl rfl rfl Try.sizeOf101 (by kernel_rfl) tab_length' (tab_one _ _ _) tab_leA wr_tab fun w hs => ?_))
  refine wpList_nil ?_
  refine then_n ?_
  refine wp_ret ?_
  exact bodyPost_ret (res1 rfl (rv_c hs 0 (v := At .u32 8 HH0) rfl rfl Try.isAgg101 Try.sizeOf101 ldv_tab)) hs.defers ⟨rfl, (hs.bel rfl)⟩
theorem steps_c  (w0 : World) : Calls Try.prog 85 #[] w0 fun e w' => e = .returned (At .u32 64 KK) ∧ Below w0.heap.size w0 w' := by
  refine enter (n := 2) (args := []) Try.func85 rfl rfl (Nat.le_of_ble_eq_true rfl) fun ac hs => ?_
  refine wp_seq ?_
  refine wp_region_lit ?_
  refine lstep (wpO_plain rfl (op_alloc hs none none (cs := (tab .u32 64 (fun _ => 0))) rfl rfl Try.zeroValue109 (by kernel_rfl) rfl rfl fun g1 ac w hs => ?_))
  refine wpList_nil ?_
  refine then_n ?_
  refine wp_seq ?_
  refine wp_region_lit ?_
  refine lstep (wpO_plain rfl (op_build hs none (qs := [(0, .int .u32 1116352408), (1, .int .u32 1899447441), (2, .int .u32 3049323471), (3, .int .u32 3921009573), (4, .int .u32 961987163), (5, .int .u32 1508970993), (6, .int .u32 2453635748), (7, .int .u32 2870763221), (8, .int .u32 3624381080), (9, .int .u32 310598401), (10, .int .u32 607225278), (11, .int .u32 1426881987), (12, .int .u32 1925078388), (13, .int .u32 2162078206), (14, .int .u32 2614888103), (15, .int .u32 3248222580), (16, .int .u32 3835390401), (17, .int .u32 4022224774), (18, .int .u32 264347078), (19, .int .u32 604807628), (20, .int .u32 770255983), (21, .int .u32 1249150122), (22, .int .u32 1555081692), (23, .int .u32 1996064986), (24, .int .u32 2554220882), (25, .int .u32 2821834349), (26, .int .u32 2952996808), (27, .int .u32 3210313671), (28, .int .u32 3336571891), (29, .int .u32 3584528711), (30, .int .u32 113926993), (31, .int .u32 338241895), (32, .int .u32 666307205), (33, .int .u32 773529912), (34, .int .u32 1294757372), (35, .int .u32 1396182291), (36, .int .u32 1695183700), (37, .int .u32 1986661051), (38, .int .u32 2177026350), (39, .int .u32 2456956037), (40, .int .u32 2730485921), (41, .int .u32 2820302411), (42, .int .u32 3259730800), (43, .int .u32 3345764771), (44, .int .u32 3516065817), (45, .int .u32 3600352804), (46, .int .u32 4094571909), (47, .int .u32 275423344), (48, .int .u32 430227734), (49, .int .u32 506948616), (50, .int .u32 659060556), (51, .int .u32 883997877), (52, .int .u32 958139571), (53, .int .u32 1322822218), (54, .int .u32 1537002063), (55, .int .u32 1747873779), (56, .int .u32 1955562222), (57, .int .u32 2024104815), (58, .int .u32 2227730452), (59, .int .u32 2361852424), (60, .int .u32 2428436474), (61, .int .u32 2756734187), (62, .int .u32 3204031479), (63, .int .u32 3329325298)]) (v := At .u32 64 KK) rfl rfl rfl rfl (fun _ => by kernel_rfl) rfl fun ac hs => ?_))
  refine lstep (wpO_plain rfl (op_store hs 0 (vs := (tab .u32 64 KK)) rfl rfl rfl rfl rfl Try.sizeOf109 (by kernel_rfl) tab_length' (tab_one _ _ _) tab_leA wr_tab fun w hs => ?_))
  refine wpList_nil ?_
  refine then_n ?_
  refine wp_ret ?_
  exact bodyPost_ret (res1 rfl (rv_c hs 0 (v := At .u32 64 KK) rfl rfl Try.isAgg109 Try.sizeOf109 ldv_tab)) hs.defers ⟨rfl, (hs.bel rfl)⟩
theorem spread_c (ad : Option Addr) (nl c : Nat) (l : List UInt8) (h64 : l.length = 64) (w0 : World) (Z : Nat → Prop) (hl : ByV w0 Z (.slice ad nl c) l): Calls Try.prog 84 #[.slice ad nl c] w0 fun e w' => Ret w0 Z (ρ := Unit) (fun r => At .u32 64 (wv l)) (fun r => []) e w' := by
  obtain rfl := byv_len hl
  refine enterS (n := 82) (args := [.slice ad l.length c]) (S := [(true, .cel (.slice ad l.length c) l.length (bcs l))]) (Z := Z) Try.func84 rfl rfl (Nat.le_of_ble_eq_true rfl) (sokC hl sok0) rfl fun ac hs => ?_
  refine wp_seq ?_
  refine wp_region_lit ?_
  refine lstep (wpO_plain rfl (op_alloc hs none none (cs := (tab .u32 64 (fun _ => 0))) rfl rfl Try.zeroValue109 (by kernel_rfl) rfl rfl fun g1 ac w hs => ?_))
  refine wpList_nil ?_
  refine then_n ?_
  refine wp_seq ?_
  refine wp_region_lit ?_
  refine lstep (wpO_plain rfl (op_alloc hs none none (cs := (tab .u32 64 (fun _ => 0))) rfl rfl Try.zeroValue109 (by kernel_rfl) rfl rfl fun g2 ac w hs => ?_))
  refine wpList_nil ?_
  refine then_n ?_
  refine wp_seq ?_
  refine wp_seq ?_
  refine wp_region_lit ?_
  refine lstep (wpO_plain rfl (op_move hs none rfl rfl rfl rfl fun ac hs => ?_))
  refine wpList_nil ?_
  refine then_n ?_
  refine wp_block ?_
  replace hs := hs.setb 1 (cs' := (tab .u32 64 (w16 l 0 0))) rfl (tab_ext fun j hj => w16_zero l j)
  refine wp_loop_m (fun μ ac w => ∃ (i : Nat), (16 - i) = μ ∧ (i ≤ 16) ∧ St 82 ⟨w0, [], [(true, .cel (.slice ad l.length c) l.length (bcs l))], Z, noX⟩ [(0, true, .slice ad l.length c), (2, true, .pointer (some ⟨g1, 0, none⟩)), (3, true, .pointer (some ⟨g2, 0, none⟩)), (12, true, .int .i64 ((i : Nat) : Int))] [(true, g1, 109, (tab .u32 64 (fun _ => 0))), (true, g2, 109, (tab .u32 64 (w16 l i 0)))] ac w) ?_ ?_
  · exact ⟨_, 0, rfl, (by omega), (hs.re (fs' := [(0, true, .slice ad l.length c), (2, true, .pointer (some ⟨g1, 0, none⟩)), (3, true, .pointer (some ⟨g2, 0, none⟩)), (12, true, .int .i64 ((0 : Nat) : Int))]) ⟨rfl, rfl, rfl, rfl, trivial⟩)⟩
  intro μ ac w ⟨i, hμ, hi, hs⟩
  refine wp_seq ?_
  refine wp_region_lit ?_
  refine lstep (wpO_plain rfl (op_bin hs none (v := .bool (decide (i < 16))) rfl rfl rfl rfl (fun _ => rfl) (bin_lssN (x := i) (y := 16)) rfl fun ac hs => ?_))
  refine wpList_nil ?_
  refine then_n ?_
  refine wp_seq ?_
  refine wp_cond_split (hs.ev rfl) (fun hc => ?_) (fun hc => ?_)
  · skip
    have hp3 := of_decide_eq_true hc
    have hi16 := of_decide_eq_true hc
    refine wp_skip ?_
    refine then_n ?_
    refine wp_seq ?_
    refine wp_block ?_
    refine wp_seq ?_
    refine wp_region_lit ?_
    refine lstep (wpO_plain rfl (op_move hs none rfl rfl rfl rfl fun ac hs => ?_))
    refine lstep (wpO_plain rfl (op_assign hs none rfl rfl rfl rfl fun ac hs => ?_))
    refine wpList_nil ?_
    refine then_n ?_
    refine wp_seq ?_
    refine wp_region_lit ?_
    refine lstep (wpO_plain rfl (op_move hs none rfl rfl rfl rfl fun ac hs => ?_))
    refine lstep (wpO_plain rfl (op_move hs none rfl rfl rfl rfl fun ac hs => ?_))
    refine lstep (wpO_plain rfl (op_bin hs none (v := .int .i64 ((4 * i : Nat) : Int)) rfl rfl rfl rfl (fun _ => rfl) (bin_mulN (x := 4) (y := i) (z := 4 * i) rfl (show 4 * i < 9223372036854775808 by omega)) rfl fun ac hs => ?_))
    refine lstep (wpO_plain rfl (op_move hs none rfl rfl rfl rfl fun ac hs => ?_))
    refine lstep (wpO_plain rfl (op_bin hs none (v := .int .i64 ((4 * i : Nat) : Int)) rfl rfl rfl rfl (fun _ => rfl) (bin_mulN (x := 4) (y := i) (z := 4 * i) rfl (show 4 * i < 9223372036854775808 by omega)) rfl fun ac hs => ?_))
    refine lstep (wpO_plain rfl (op_bin hs none (v := .int .i64 ((4 * i + 4 : Nat) : Int)) rfl rfl rfl rfl (fun _ => rfl) (bin_addN (x := 4 * i) (y := 4) (z := 4 * i + 4) rfl (show 4 * i + 4 < 9223372036854775808 by omega)) rfl fun ac hs => ?_))
    refine lstep (wpO_plain rfl (op_sliceR hs none none 0 (4 * i) (4 * i + 4) (N' := ((l.drop (4 * i)).take (4 * i + 4 - (4 * i))).length) (cs' := bcs ((l.drop (4 * i)).take (4 * i + 4 - (4 * i)))) rfl rfl rfl rfl (.inr ⟨_, _, rfl, rfl⟩) (.inr ⟨_, _, rfl, rfl⟩) Try.underlying34 Try.sizeOf5 (show 4 * i ≤ 4 * i + 4 by omega) (show 4 * i + 4 ≤ l.length by omega) (len_both (show 4 * i ≤ 4 * i + 4 by omega) (show 4 * i + 4 ≤ l.length by omega)) (bcs_part _ _ _) rfl rfl fun ac hs => ?_))
    refine lstep (wpO_plain rfl (op_blt hs none (v := .int .i64 ((((l.drop (4 * i)).take (4 * i + 4 - (4 * i))).length : Nat) : Int)) rfl rfl rfl (blt_len Try.underlying34) rfl fun ac hs => ?_))
    refine lstep (wpO_plain rfl (op_move hs none rfl rfl rfl rfl fun ac hs => ?_))
    refine wpList_nil ?_
    refine then_n ?_
    refine wp_block ?_
    refine wp_loop_m (fun μ ac w => ∃ (k : Nat), (4 - k) = μ ∧ (k ≤ 4) ∧ St 82 ⟨w0, [], [(true, .cel (.slice ad l.length c) l.length (bcs l)), (true, .cel (.slice (vsa ad c 1 (4 * i)) (((l.drop (4 * i)).take (4 * i + 4 - (4 * i))).length) (c - (4 * i))) (((l.drop (4 * i)).take (4 * i + 4 - (4 * i))).length) (bcs ((l.drop (4 * i)).take (4 * i + 4 - (4 * i)))))], Z, noX⟩ [(0, true, .slice ad l.length c), (2, true, .pointer (some ⟨g1, 0, none⟩)), (3, true, .pointer (some ⟨g2, 0, none⟩)), (4, true, .int .i64 ((i : Nat) : Int)), (12, true, .int .i64 ((i : Nat) : Int)), (21, true, .slice (vsa ad c 1 (4 * i)) (((l.drop (4 * i)).take (4 * i + 4 - (4 * i))).length) (c - (4 * i))), (22, true, .int .i64 ((((l.drop (4 * i)).take (4 * i + 4 - (4 * i))).length : Nat) : Int)), (23, true, .int .i64 ((k : Nat) : Int))] [(true, g1, 109, (tab .u32 64 (fun _ => 0))), (true, g2, 109, (tab .u32 64 (w16 l i k)))] ac w) ?_ ?_
    · exact ⟨_, 0, rfl, (by omega), (hs.re (fs' := [(0, true, .slice ad l.length c), (2, true, .pointer (some ⟨g1, 0, none⟩)), (3, true, .pointer (some ⟨g2, 0, none⟩)), (4, true, .int .i64 ((i : Nat) : Int)), (12, true, .int .i64 ((i : Nat) : Int)), (21, true, .slice (vsa ad c 1 (4 * i)) (((l.drop (4 * i)).take (4 * i + 4 - (4 * i))).length) (c - (4 * i))), (22, true, .int .i64 ((((l.drop (4 * i)).take (4 * i + 4 - (4 * i))).length : Nat) : Int)), (23, true, .int .i64 ((0 : Nat) : Int))]) ⟨rfl, rfl, rfl, rfl, rfl, rfl, rfl, rfl, trivial⟩)⟩
    intro μ ac w ⟨k, hμ, hk, hs⟩
    refine wp_seq ?_
    refine wp_region_lit ?_
    refine lstep (wpO_plain rfl (op_bin hs none (v := .bool (decide (k < ((l.drop (4 * i)).take (4 * i + 4 - (4 * i))).length))) rfl rfl rfl rfl (fun _ => rfl) (bin_lssN (x := k) (y := ((l.drop (4 * i)).take (4 * i + 4 - (4 * i))).length)) rfl fun ac hs => ?_))
    refine wpList_nil ?_
    refine then_n ?_
    refine wp_seq ?_
    refine wp_cond_split (hs.ev rfl) (fun hc => ?_) (fun hc => ?_)
    · skip
      have hp4 := of_decide_eq_true hc
      have hk4 : k < 4 := by have := of_decide_eq_true hc; simp only [List.length_take, List.length_drop] at this; omega
      have hpt := pre4_24 (b := l) (t := i) hk4
      refine wp_skip ?_
      refine then_n ?_
      refine wp_seq ?_
      refine wp_block ?_
      refine wp_seq ?_
      refine wp_region_lit ?_
      refine lstep (wpO_plain rfl (op_idxC hs none 1 (j := k) rfl rfl rfl rfl rfl Try.underlying34 Try.sizeOf5 (show k < ((l.drop (4 * i)).take (4 * i + 4 - (4 * i))).length by first | omega | ((try simp only [List.length_drop, List.length_take, List.length_append, List.length_cons, List.length_nil]); omega)) (off := k) (by omega) rfl fun ac hs => ?_))
      have l5 := byt_lt ((l.drop (4 * i)).take (4 * i + 4 - (4 * i))) k
      refine lstep (wpO_plain rfl (op_loadC hs none 1 (u := .int .u8 ((byt ((l.drop (4 * i)).take (4 * i + 4 - (4 * i))) k : Nat) : Int)) rfl rfl rfl rfl Try.isAgg5 Try.sizeOf5 (by decide) (bcs_get (show k < ((l.drop (4 * i)).take (4 * i + 4 - (4 * i))).length by first | omega | ((try simp only [List.length_drop, List.length_take, List.length_append, List.length_cons, List.length_nil]); omega))) rfl fun ac hs => ?_))
      refine lstep (wpO_plain rfl (op_assign hs none rfl rfl rfl rfl fun ac hs => ?_))
      refine wpList_nil ?_
      refine then_n ?_
      refine wp_region_lit ?_
      refine lstep (wpO_plain rfl (op_move hs none rfl rfl rfl rfl fun ac hs => ?_))
      refine lstep (wpO_plain rfl (op_move hs none rfl rfl rfl rfl fun ac hs => ?_))
      refine lstep (wpO_plain rfl (op_idxA hs none (j := i) rfl rfl rfl rfl Try.underlying109 Try.sizeOf99 (show i < 64 by omega) (off := i) (by omega) rfl fun ac hs => ?_))
      refine lstep (wpO_plain rfl (op_load hs none 1 (v := .int .u32 (((w16 l i k) i : Nat) : Int)) rfl rfl rfl rfl Try.isAgg99 Try.sizeOf99 (tab_get (j := i) (show i < 64 by omega)) rfl fun ac hs => ?_))
      refine lstep (wpO_plain rfl (op_bin hs none (v := .int .u32 ((pre4 l i k * 256 : Nat) : Int)) rfl rfl rfl rfl (fun _ => rfl) (bin_shlZ (x := (w16 l i k) i) (y := 8) (z := pre4 l i k * 256) (by rw [w16_at]) (by decide) (show pre4 l i k * 256 < 4294967296 by omega)) rfl fun ac hs => ?_))
      refine lstep (wpO_plain rfl (op_move hs none rfl rfl rfl rfl fun ac hs => ?_))
      refine lstep (wpO_plain rfl (op_convert hs none (v := .int .u32 ((byt ((l.drop (4 * i)).take (4 * i + 4 - (4 * i))) k : Nat) : Int)) rfl rfl rfl (conv_N Try.underlying5 Try.underlying99 (show byt ((l.drop (4 * i)).take (4 * i + 4 - (4 * i))) k < 4294967296 by first | omega | ((try simp only [List.length_drop, List.length_take, List.length_append, List.length_cons, List.length_nil]); omega))) rfl fun ac hs => ?_))
      refine lstep (wpO_plain rfl (op_bin hs none (v := .int .u32 ((pre4 l i k * 256 + (byt ((l.drop (4 * i)).take (4 * i + 4 - (4 * i))) k) : Nat) : Int)) rfl rfl rfl rfl (fun _ => rfl) (bin_orN (x := pre4 l i k * 256) (y := byt ((l.drop (4 * i)).take (4 * i + 4 - (4 * i))) k) (z := pre4 l i k * 256 + (byt ((l.drop (4 * i)).take (4 * i + 4 - (4 * i))) k)) (or_256' (byt_lt _ _)) (show pre4 l i k * 256 < 4294967296 by omega) (show byt ((l.drop (4 * i)).take (4 * i + 4 - (4 * i))) k < 4294967296 by have := byt_lt ((l.drop (4 * i)).take (4 * i + 4 - 4 * i)) k; omega) (show pre4 l i k * 256 + (byt ((l.drop (4 * i)).take (4 * i + 4 - (4 * i))) k) < 4294967296 by have := byt_lt ((l.drop (4 * i)).take (4 * i + 4 - 4 * i)) k; omega)) rfl fun ac hs => ?_))
      refine lstep (wpO_plain rfl (op_idxA hs none (j := i) rfl rfl rfl rfl Try.underlying109 Try.sizeOf99 (show i < 64 by omega) (off := i) (by omega) rfl fun ac hs => ?_))
      refine lstep (wpO_plain rfl (op_store hs 1 (vs := [.int .u32 ((pre4 l i k * 256 + (byt ((l.drop (4 * i)).take (4 * i + 4 - (4 * i))) k) : Nat) : Int)]) rfl rfl rfl rfl rfl Try.sizeOf99 rfl rfl rfl (tab_le (j := i) (show i < 64 by omega)) (tab_set) fun w hs => ?_))
      refine wpList_nil ?_
      refine blk_n ?_
      refine then_n ?_
      replace hs : St 82 ⟨w0, [], [(true, .cel (.slice ad l.length c) l.length (bcs l)), (true, .cel (.slice (vsa ad c 1 (4 * i)) (((l.drop (4 * i)).take (4 * i + 4 - (4 * i))).length) (c - (4 * i))) (((l.drop (4 * i)).take (4 * i + 4 - (4 * i))).length) (bcs ((l.drop (4 * i)).take (4 * i + 4 - (4 * i)))))], Z, noX⟩ [(0, true, .slice ad l.length c), (2, true, .pointer (some ⟨g1, 0, none⟩)), (3, true, .pointer (some ⟨g2, 0, none⟩)), (4, true, .int .i64 ((i : Nat) : Int)), (12, true, .int .i64 ((i : Nat) : Int)), (21, true, .slice (vsa ad c 1 (4 * i)) (((l.drop (4 * i)).take (4 * i + 4 - (4 * i))).length) (c - (4 * i))), (22, true, .int .i64 ((((l.drop (4 * i)).take (4 * i + 4 - (4 * i))).length : Nat) : Int)), (23, true, .int .i64 ((k : Nat) : Int))] [(true, g1, 109, (tab .u32 64 (fun _ => 0))), (true, g2, 109, (tab .u32 64 (upn (w16 l i k) i (pre4 l i k * 256 + (byt ((l.drop (4 * i)).take (4 * i + 4 - (4 * i))) k)))))] ac _ := hs.re ⟨rfl, rfl, rfl, rfl, rfl, rfl, rfl, rfl, trivial⟩
      refine wp_region_lit ?_
      refine lstep (wpO_plain rfl (op_bin hs none (v := .int .i64 ((k + 1 : Nat) : Int)) rfl rfl rfl rfl (fun _ => rfl) (bin_addN (x := k) (y := 1) (z := k + 1) rfl (show k + 1 < 9223372036854775808 by omega)) rfl fun ac hs => ?_))
      refine lstep (wpO_plain rfl (op_move hs none rfl rfl rfl rfl fun ac hs => ?_))
      refine wpList_nil ?_
      refine then_n ?_
      replace hs := hs.setb 1 (cs' := (tab .u32 64 (w16 l i (k + 1)))) rfl (tab_ext fun j hj => w16_step (by rw [show 4 * i + 4 - 4 * i = 4 by omega, byt_part hk4]) j)
      exact ⟨_, ⟨(k + 1), rfl, (by omega), (hs.re (fs' := [(0, true, .slice ad l.length c), (2, true, .pointer (some ⟨g1, 0, none⟩)), (3, true, .pointer (some ⟨g2, 0, none⟩)), (4, true, .int .i64 ((i : Nat) : Int)), (12, true, .int .i64 ((i : Nat) : Int)), (21, true, .slice (vsa ad c 1 (4 * i)) (((l.drop (4 * i)).take (4 * i + 4 - (4 * i))).length) (c - (4 * i))), (22, true, .int .i64 ((((l.drop (4 * i)).take (4 * i + 4 - (4 * i))).length : Nat) : Int)), (23, true, .int .i64 (((k + 1) : Nat) : Int))]) ⟨rfl, rfl, rfl, rfl, rfl, rfl, rfl, rfl, trivial⟩)⟩, (by omega)⟩
    · skip
      have hp6 := of_decide_eq_false hc
      obtain rfl : k = 4 := by have := of_decide_eq_false hc; simp only [List.length_take, List.length_drop] at this; omega
      replace hs := hs.setb 1 (cs' := (tab .u32 64 (w16 l (i + 1) 0))) rfl (tab_ext fun j hj => w16_next hi16 j)
      refine wp_exit ?_
      refine then_e ?_
      refine then_e ?_
      refine blk_e ?_
      refine blk_n ?_
      refine then_n ?_
      refine wp_region_lit ?_
      refine lstep (wpO_plain rfl (op_bin hs none (v := .int .i64 ((i + 1 : Nat) : Int)) rfl rfl rfl rfl (fun _ => rfl) (bin_addN (x := i) (y := 1) (z := i + 1) rfl (show i + 1 < 9223372036854775808 by omega)) rfl fun ac hs => ?_))
      refine lstep (wpO_plain rfl (op_move hs none rfl rfl rfl rfl fun ac hs => ?_))
      refine wpList_nil ?_
      refine then_n ?_
      replace hs := hs.selS [0] rfl (by decide)
      exact ⟨_, ⟨(i + 1), rfl, (by omega), (hs.re (fs' := [(0, true, .slice ad l.length c), (2, true, .pointer (some ⟨g1, 0, none⟩)), (3, true, .pointer (some ⟨g2, 0, none⟩)), (12, true, .int .i64 (((i + 1) : Nat) : Int))]) ⟨rfl, rfl, rfl, rfl, trivial⟩)⟩, (by omega)⟩
  · skip
    have hp7 := of_decide_eq_false hc
    obtain rfl : i = 16 := by have := of_decide_eq_false hc; omega
    replace hs := hs.setb 1 (cs' := (tab .u32 64 (w64 l 16))) rfl (tab_ext fun j hj => w64_16 l j)
    refine wp_exit ?_
    refine then_e ?_
    refine then_e ?_
    refine blk_e ?_
    refine then_n ?_
    refine wp_seq ?_
    refine wp_seq ?_
    refine wp_region_lit ?_
    refine lstep (wpO_plain rfl (op_assign hs none rfl rfl rfl rfl fun ac hs => ?_))
    refine wpList_nil ?_
    refine then_n ?_
    refine wp_block ?_
    refine wp_loop_m (fun μ ac w => ∃ (i : Nat), (64 - i) = μ ∧ (16 ≤ i) ∧ (i ≤ 64) ∧ St 82 ⟨w0, [], [(true, .cel (.slice ad l.length c) l.length (bcs l))], Z, noX⟩ [(2, true, .pointer (some ⟨g1, 0, none⟩)), (3, true, .pointer (some ⟨g2, 0, none⟩)), (7, true, .int .i64 ((i : Nat) : Int))] [(true, g1, 109, (tab .u32 64 (fun _ => 0))), (true, g2, 109, (tab .u32 64 (w64 l i)))] ac w) ?_ ?_
    · exact ⟨_, 16, rfl, (by omega), (by omega), (hs.re (fs' := [(2, true, .pointer (some ⟨g1, 0, none⟩)), (3, true, .pointer (some ⟨g2, 0, none⟩)), (7, true, .int .i64 ((16 : Nat) : Int))]) ⟨rfl, rfl, rfl, trivial⟩)⟩
    intro μ ac w ⟨i, hμ, hi1, hi, hs⟩
    refine wp_seq ?_
    refine wp_seq ?_
    refine wp_region_lit ?_
    refine lstep (wpO_plain rfl (op_move hs none rfl rfl rfl rfl fun ac hs => ?_))
    refine lstep (wpO_plain rfl (op_bin hs none (v := .bool (decide (i < 64))) rfl rfl rfl rfl (fun _ => rfl) (bin_lssN (x := i) (y := 64)) rfl fun ac hs => ?_))
    refine wpList_nil ?_
    refine then_n ?_
    refine wp_cond_split (hs.ev rfl) (fun hc => ?_) (fun hc => ?_)
    · skip
      have hp8 := of_decide_eq_true hc
      have hi64 := of_decide_eq_true hc
      refine wp_skip ?_
      refine then_n ?_
      refine wp_seq ?_
      refine wp_block ?_
      refine wp_seq ?_
      replace hs : St 82 ⟨w0, [], [(true, .cel (.slice ad l.length c) l.length (bcs l))], Z, noX⟩ [(2, true, .pointer (some ⟨g1, 0, none⟩)), (3, true, .pointer (some ⟨g2, 0, none⟩)), (7, true, .int .i64 ((i : Nat) : Int))] [(true, g1, 109, (tab .u32 64 (fun _ => 0))), (true, g2, 109, (tab .u32 64 (w64 l i)))] ac _ := hs.re ⟨rfl, rfl, rfl, trivial⟩
      have l9 := w64_lt l i (i - 15)
      have l10 := w64_lt l i (i - 2)
      refine region_inv [([], [1, 2, 3, 8, 9]), ([0], [2, 3, 8, 9]), ([0, 1], [3, 8, 9]), ([0, 1, 2], [8, 9]), ([], [5, 6, 7, 9]), ([4], [6, 7, 9]), ([4, 5], [7, 9]), ([4, 5, 6], [9]), ([0, 1, 2, 3], [9]), ([0, 1, 2, 3, 4, 5, 6, 7, 8], [])] (fun L ac w => St 82 ⟨w0, [], [(true, .cel (.slice ad l.length c) l.length (bcs l))], Z, noX⟩ [(42, L 0, .int .i64 ((i : Nat) : Int)), (43, L 1, .int .i64 ((i - 15 : Nat) : Int)), (44, L 2, .pointer (some ⟨g2, i - 15, none⟩)), (45, L 3, .int .u32 (((w64 l i) (i - 15) : Nat) : Int)), (46, L 4, .int .i64 ((i : Nat) : Int)), (47, L 5, .int .i64 ((i - 2 : Nat) : Int)), (48, L 6, .pointer (some ⟨g2, i - 2, none⟩)), (49, L 7, .int .u32 (((w64 l i) (i - 2) : Nat) : Int)), (8, L 8, .int .u32 (((w64 l i) (i - 15) : Nat) : Int)), (9, L 9, .int .u32 (((w64 l i) (i - 2) : Nat) : Int)), (2, true, .pointer (some ⟨g1, 0, none⟩)), (3, true, .pointer (some ⟨g2, 0, none⟩)), (7, true, .int .i64 ((i : Nat) : Int))] [(true, g1, 109, (tab .u32 64 (fun _ => 0))), (true, g2, 109, (tab .u32 64 (w64 l i)))] ac w) (by kernel_rfl) (by kernel_rfl) ?_ ?_ ?_
      · exact hs.drew.skip.skip.skip.skip.skip.skip.skip.skip.skip.skip
      · refine ⟨?_, ?_, ?_, ?_, ?_, ?_, ?_, ?_, ?_, ?_, trivial⟩
        · intro L ac w hJ
          have hs := hJ
          refine wpO_plain rfl (op_move hs (some 0) rfl rfl rfl rfl fun ac hs => ?_)
          exact hs
        · intro L ac w hJ
          have hs := hJ
          refine wpO_plain rfl (op_bin hs (some 1) (v := .int .i64 ((i - 15 : Nat) : Int)) rfl rfl rfl rfl (fun _ => rfl) (bin_subN (x := i) (y := 15) (z := i - 15) (by omega) (show i - 15 < 9223372036854775808 by omega)) rfl fun ac hs => ?_)
          exact hs
        · intro L ac w hJ
          have hs := hJ
          refine wpO_plain rfl (op_idxA hs (some 2) (j := i - 15) rfl rfl rfl rfl Try.underlying109 Try.sizeOf99 (show i - 15 < 64 by omega) (off := i - 15) (by omega) rfl fun ac hs => ?_)
          exact hs
        · intro L ac w hJ
          have hs := hJ
          refine wpO_plain rfl (op_load hs (some 3) 1 (v := .int .u32 (((w64 l i) (i - 15) : Nat) : Int)) rfl rfl rfl rfl Try.isAgg99 Try.sizeOf99 (tab_get (j := i - 15) (show i - 15 < 64 by omega)) rfl fun ac hs => ?_)
          exact hs
        · intro L ac w hJ
          have hs := hJ
          refine wpO_plain rfl (op_move hs (some 4) rfl rfl rfl rfl fun ac hs => ?_)
          exact hs
        · intro L ac w hJ
          have hs := hJ
          refine wpO_plain rfl (op_bin hs (some 5) (v := .int .i64 ((i - 2 : Nat) : Int)) rfl rfl rfl rfl (fun _ => rfl) (bin_subN (x := i) (y := 2) (z := i - 2) (by omega) (show i - 2 < 9223372036854775808 by omega)) rfl fun ac hs => ?_)
          exact hs
        · intro L ac w hJ
          have hs := hJ
          refine wpO_plain rfl (op_idxA hs (some 6) (j := i - 2) rfl rfl rfl rfl Try.underlying109 Try.sizeOf99 (show i - 2 < 64 by omega) (off := i - 2) (by omega) rfl fun ac hs => ?_)
          exact hs
        · intro L ac w hJ
          have hs := hJ
          refine wpO_plain rfl (op_load hs (some 7) 1 (v := .int .u32 (((w64 l i) (i - 2) : Nat) : Int)) rfl rfl rfl rfl Try.isAgg99 Try.sizeOf99 (tab_get (j := i - 2) (show i - 2 < 64 by omega)) rfl fun ac hs => ?_)
          exact hs
        · intro L ac w hJ
          have hs := hJ
          refine wpO_plain rfl (op_assign hs (some 8) rfl rfl rfl rfl fun ac hs => ?_)
          exact hs
        · intro L ac w hJ
          have hs := hJ
          refine wpO_plain rfl (op_assign hs (some 9) rfl rfl rfl rfl fun ac hs => ?_)
          exact hs
      intro ac w hJ
      replace hs : St 82 ⟨w0, [], [(true, .cel (.slice ad l.length c) l.length (bcs l))], Z, noX⟩ [(42, true, .int .i64 ((i : Nat) : Int)), (43, true, .int .i64 ((i - 15 : Nat) : Int)), (44, true, .pointer (some ⟨g2, i - 15, none⟩)), (45, true, .int .u32 (((w64 l i) (i - 15) : Nat) : Int)), (46, true, .int .i64 ((i : Nat) : Int)), (47, true, .int .i64 ((i - 2 : Nat) : Int)), (48, true, .pointer (some ⟨g2, i - 2, none⟩)), (49, true, .int .u32 (((w64 l i) (i - 2) : Nat) : Int)), (8, true, .int .u32 (((w64 l i) (i - 15) : Nat) : Int)), (9, true, .int .u32 (((w64 l i) (i - 2) : Nat) : Int)), (2, true, .pointer (some ⟨g1, 0, none⟩)), (3, true, .pointer (some ⟨g2, 0, none⟩)), (7, true, .int .i64 ((i : Nat) : Int))] [(true, g1, 109, (tab .u32 64 (fun _ => 0))), (true, g2, 109, (tab .u32 64 (w64 l i)))] ac w := hJ
      refine then_n ?_
      refine wp_seq ?_
      refine wp_region_lit ?_
      refine lstep (wpO_plain rfl (op_move hs none rfl rfl rfl rfl fun ac hs => ?_))
      obtain ⟨x11, hx11, lx11⟩ : ∃ z0, rr ((w64 l i) (i - 15)) 7 = z0 ∧ z0 < 4294967296 := ⟨_, rfl, rr_lt (show (w64 l i) (i - 15) < 4294967296 by omega)⟩
      refine lstep (wpO_plain rfl (op_call (F := 86) hs none (v := .int .u32 ((x11 : Nat) : Int)) rfl rfl rfl rfl (Try.call86 _) (rot_c ((w64 l i) (i - 15)) 7 x11 (show (w64 l i) (i - 15) < 4294967296 by omega) (by decide) (by decide) hx11) rfl fun ac w hs => ?_))
      refine lstep (wpO_plain rfl (op_move hs none rfl rfl rfl rfl fun ac hs => ?_))
      obtain ⟨x12, hx12, lx12⟩ : ∃ z0, rr ((w64 l i) (i - 15)) 18 = z0 ∧ z0 < 4294967296 := ⟨_, rfl, rr_lt (show (w64 l i) (i - 15) < 4294967296 by omega)⟩
      refine lstep (wpO_plain rfl (op_call (F := 86) hs none (v := .int .u32 ((x12 : Nat) : Int)) rfl rfl rfl rfl (Try.call86 _) (rot_c ((w64 l i) (i - 15)) 18 x12 (show (w64 l i) (i - 15) < 4294967296 by omega) (by decide) (by decide) hx12) rfl fun ac w hs => ?_))
      obtain ⟨x13, hx13, lx13⟩ : ∃ z0, x11 ^^^ x12 = z0 ∧ z0 < 4294967296 := ⟨_, rfl, x32 (show x11 < 4294967296 by omega) (show x12 < 4294967296 by omega)⟩
      refine lstep (wpO_plain rfl (op_bin hs none (v := .int .u32 ((x13 : Nat) : Int)) rfl rfl rfl rfl (fun _ => rfl) (bin_xorN (x := x11) (y := x12) (z := x13) hx13 (show x11 < 4294967296 by omega) (show x12 < 4294967296 by omega) lx13) rfl fun ac hs => ?_))
      refine lstep (wpO_plain rfl (op_move hs none rfl rfl rfl rfl fun ac hs => ?_))
      obtain ⟨x14, hx14, lx14⟩ : ∃ z0, ((w64 l i) (i - 15)) / 2 ^ 3 = z0 ∧ z0 < 4294967296 := ⟨_, rfl, Nat.lt_of_le_of_lt (Nat.div_le_self _ _) (show (w64 l i) (i - 15) < 4294967296 by omega)⟩
      refine lstep (wpO_plain rfl (op_bin hs none (v := .int .u32 ((x14 : Nat) : Int)) rfl rfl rfl rfl (fun _ => rfl) (bin_shrN (x := (w64 l i) (i - 15)) (y := 3) (z := x14) hx14 (show (w64 l i) (i - 15) < 4294967296 by omega)) rfl fun ac hs => ?_))
      obtain ⟨x15, hx15, lx15⟩ : ∃ z0, x13 ^^^ x14 = z0 ∧ z0 < 4294967296 := ⟨_, rfl, x32 (show x13 < 4294967296 by omega) (show x14 < 4294967296 by omega)⟩
      refine lstep (wpO_plain rfl (op_bin hs none (v := .int .u32 ((x15 : Nat) : Int)) rfl rfl rfl rfl (fun _ => rfl) (bin_xorN (x := x13) (y := x14) (z := x15) hx15 (show x13 < 4294967296 by omega) (show x14 < 4294967296 by omega) lx15) rfl fun ac hs => ?_))
      refine lstep (wpO_plain rfl (op_assign hs none rfl rfl rfl rfl fun ac hs => ?_))
      refine wpList_nil ?_
      refine then_n ?_
      refine wp_seq ?_
      replace hs : St 82 ⟨w0, [], [(true, .cel (.slice ad l.length c) l.length (bcs l))], Z, noX⟩ [(2, true, .pointer (some ⟨g1, 0, none⟩)), (3, true, .pointer (some ⟨g2, 0, none⟩)), (7, true, .int .i64 ((i : Nat) : Int)), (9, true, .int .u32 (((w64 l i) (i - 2) : Nat) : Int)), (10, true, .int .u32 ((x15 : Nat) : Int))] [(true, g1, 109, (tab .u32 64 (fun _ => 0))), (true, g2, 109, (tab .u32 64 (w64 l i)))] ac _ := hs.re ⟨rfl, rfl, rfl, rfl, rfl, trivial⟩
      refine wp_region_lit ?_
      refine lstep (wpO_plain rfl (op_move hs none rfl rfl rfl rfl fun ac hs => ?_))
      obtain ⟨x16, hx16, lx16⟩ : ∃ z0, rr ((w64 l i) (i - 2)) 17 = z0 ∧ z0 < 4294967296 := ⟨_, rfl, rr_lt (show (w64 l i) (i - 2) < 4294967296 by omega)⟩
      refine lstep (wpO_plain rfl (op_call (F := 86) hs none (v := .int .u32 ((x16 : Nat) : Int)) rfl rfl rfl rfl (Try.call86 _) (rot_c ((w64 l i) (i - 2)) 17 x16 (show (w64 l i) (i - 2) < 4294967296 by omega) (by decide) (by decide) hx16) rfl fun ac w hs => ?_))
      refine lstep (wpO_plain rfl (op_move hs none rfl rfl rfl rfl fun ac hs => ?_))
      obtain ⟨x17, hx17, lx17⟩ : ∃ z0, rr ((w64 l i) (i - 2)) 19 = z0 ∧ z0 < 4294967296 := ⟨_, rfl, rr_lt (show (w64 l i) (i - 2) < 4294967296 by omega)⟩
      refine lstep (wpO_plain rfl (op_call (F := 86) hs none (v := .int .u32 ((x17 : Nat) : Int)) rfl rfl rfl rfl (Try.call86 _) (rot_c ((w64 l i) (i - 2)) 19 x17 (show (w64 l i) (i - 2) < 4294967296 by omega) (by decide) (by decide) hx17) rfl fun ac w hs => ?_))
      obtain ⟨x18, hx18, lx18⟩ : ∃ z0, x16 ^^^ x17 = z0 ∧ z0 < 4294967296 := ⟨_, rfl, x32 (show x16 < 4294967296 by omega) (show x17 < 4294967296 by omega)⟩
      refine lstep (wpO_plain rfl (op_bin hs none (v := .int .u32 ((x18 : Nat) : Int)) rfl rfl rfl rfl (fun _ => rfl) (bin_xorN (x := x16) (y := x17) (z := x18) hx18 (show x16 < 4294967296 by omega) (show x17 < 4294967296 by omega) lx18) rfl fun ac hs => ?_))
      refine lstep (wpO_plain rfl (op_move hs none rfl rfl rfl rfl fun ac hs => ?_))
      obtain ⟨x19, hx19, lx19⟩ : ∃ z0, ((w64 l i) (i - 2)) / 2 ^ 10 = z0 ∧ z0 < 4294967296 := ⟨_, rfl, Nat.lt_of_le_of_lt (Nat.div_le_self _ _) (show (w64 l i) (i - 2) < 4294967296 by omega)⟩
      refine lstep (wpO_plain rfl (op_bin hs none (v := .int .u32 ((x19 : Nat) : Int)) rfl rfl rfl rfl (fun _ => rfl) (bin_shrN (x := (w64 l i) (i - 2)) (y := 10) (z := x19) hx19 (show (w64 l i) (i - 2) < 4294967296 by omega)) rfl fun ac hs => ?_))
      obtain ⟨x20, hx20, lx20⟩ : ∃ z0, x18 ^^^ x19 = z0 ∧ z0 < 4294967296 := ⟨_, rfl, x32 (show x18 < 4294967296 by omega) (show x19 < 4294967296 by omega)⟩
      refine lstep (wpO_plain rfl (op_bin hs none (v := .int .u32 ((x20 : Nat) : Int)) rfl rfl rfl rfl (fun _ => rfl) (bin_xorN (x := x18) (y := x19) (z := x20) hx20 (show x18 < 4294967296 by omega) (show x19 < 4294967296 by omega) lx20) rfl fun ac hs => ?_))
      refine lstep (wpO_plain rfl (op_assign hs none rfl rfl rfl rfl fun ac hs => ?_))
      refine wpList_nil ?_
      refine then_n ?_
      replace hs : St 82 ⟨w0, [], [(true, .cel (.slice ad l.length c) l.length (bcs l))], Z, noX⟩ [(2, true, .pointer (some ⟨g1, 0, none⟩)), (3, true, .pointer (some ⟨g2, 0, none⟩)), (7, true, .int .i64 ((i : Nat) : Int)), (10, true, .int .u32 ((x15 : Nat) : Int)), (11, true, .int .u32 ((x20 : Nat) : Int))] [(true, g1, 109, (tab .u32 64 (fun _ => 0))), (true, g2, 109, (tab .u32 64 (w64 l i)))] ac _ := hs.re ⟨rfl, rfl, rfl, rfl, rfl, trivial⟩
      have l21 := w64_lt l i (i - 16)
      obtain ⟨x22, hx22, lx22⟩ : ∃ z0, ((w64 l i) (i - 16) + x15) % 4294967296 = z0 ∧ z0 < 4294967296 := ⟨_, rfl, m32 _⟩
      have l23 := w64_lt l i (i - 7)
      obtain ⟨x24, hx24, lx24⟩ : ∃ z0, (x22 + ((w64 l i) (i - 7))) % 4294967296 = z0 ∧ z0 < 4294967296 := ⟨_, rfl, m32 _⟩
      obtain ⟨x25, hx25, lx25⟩ : ∃ z0, (x24 + x20) % 4294967296 = z0 ∧ z0 < 4294967296 := ⟨_, rfl, m32 _⟩
      refine region_inv [([], [14, 15]), ([], [2, 3, 4, 6, 11, 13, 14, 15]), ([1], [3, 4, 6, 11, 13, 14, 15]), ([1, 2], [4, 6, 11, 13, 14, 15]), ([1, 2, 3], [6, 11, 13, 14, 15]), ([], [6, 11, 13, 14, 15]), ([1, 2, 3, 4, 5], [11, 13, 14, 15]), ([], [8, 9, 10, 11, 13, 14, 15]), ([7], [9, 10, 11, 13, 14, 15]), ([7, 8], [10, 11, 13, 14, 15]), ([7, 8, 9], [11, 13, 14, 15]), ([1, 2, 3, 4, 5, 6, 7, 8, 9, 10], [13, 14, 15]), ([], [13, 14, 15]), ([1, 2, 3, 4, 5, 6, 7, 8, 9, 10, 11, 12], [14, 15]), ([0, 1, 2, 3, 4, 5, 6, 7, 8, 9, 10, 11, 12, 13], [15]), ([0, 1, 2, 3, 4, 5, 6, 7, 8, 9, 10, 11, 12, 13, 14], [])] (fun L ac w => St 82 ⟨w0, [], [(true, .cel (.slice ad l.length c) l.length (bcs l))], Z, noX⟩ [(66, L 0, .int .i64 ((i : Nat) : Int)), (67, L 1, .int .i64 ((i : Nat) : Int)), (68, L 2, .int .i64 ((i - 16 : Nat) : Int)), (69, L 3, .pointer (some ⟨g2, i - 16, none⟩)), (70, L 4, .int .u32 (((w64 l i) (i - 16) : Nat) : Int)), (71, L 5, .int .u32 ((x15 : Nat) : Int)), (72, L 6, .int .u32 ((x22 : Nat) : Int)), (73, L 7, .int .i64 ((i : Nat) : Int)), (74, L 8, .int .i64 ((i - 7 : Nat) : Int)), (75, L 9, .pointer (some ⟨g2, i - 7, none⟩)), (76, L 10, .int .u32 (((w64 l i) (i - 7) : Nat) : Int)), (77, L 11, .int .u32 ((x24 : Nat) : Int)), (78, L 12, .int .u32 ((x20 : Nat) : Int)), (79, L 13, .int .u32 ((x25 : Nat) : Int)), (80, L 14, .pointer (some ⟨g2, i, none⟩)), (2, true, .pointer (some ⟨g1, 0, none⟩)), (3, true, .pointer (some ⟨g2, 0, none⟩)), (7, true, .int .i64 ((i : Nat) : Int)), (10, true, .int .u32 ((x15 : Nat) : Int)), (11, true, .int .u32 ((x20 : Nat) : Int))] [(true, g1, 109, (tab .u32 64 (fun _ => 0))), (true, g2, 109, (cond (L 15) (tab .u32 64 (upn (w64 l i) i x25)) (tab .u32 64 (w64 l i))))] ac w) (by kernel_rfl) (by kernel_rfl) ?_ ?_ ?_
      · exact hs.drew.skip.skip.skip.skip.skip.skip.skip.skip.skip.skip.skip.skip.skip.skip.skip
      · refine ⟨?_, ?_, ?_, ?_, ?_, ?_, ?_, ?_, ?_, ?_, ?_, ?_, ?_, ?_, ?_, ?_, trivial⟩
        · intro L ac w hJ
          have hs := hJ
          refine wpO_plain rfl (op_move hs (some 0) rfl rfl rfl rfl fun ac hs => ?_)
          exact hs
        · intro L ac w hJ
          have hs := hJ
          refine wpO_plain rfl (op_move hs (some 1) rfl rfl rfl rfl fun ac hs => ?_)
          exact hs
        · intro L ac w hJ
          have hs := hJ
          refine wpO_plain rfl (op_bin hs (some 2) (v := .int .i64 ((i - 16 : Nat) : Int)) rfl rfl rfl rfl (fun _ => rfl) (bin_subN (x := i) (y := 16) (z := i - 16) (by omega) (show i - 16 < 9223372036854775808 by omega)) rfl fun ac hs => ?_)
          exact hs
        · intro L ac w hJ
          have hs := hJ
          refine wpO_plain rfl (op_idxA hs (some 3) (j := i - 16) rfl rfl rfl rfl Try.underlying109 Try.sizeOf99 (show i - 16 < 64 by omega) (off := i - 16) (by omega) rfl fun ac hs => ?_)
          exact hs
        · intro L ac w hJ
          have hs := hJ
          refine wpO_plain rfl (op_load hs (some 4) 1 (v := .int .u32 (((w64 l i) (i - 16) : Nat) : Int)) rfl rfl rfl rfl Try.isAgg99 Try.sizeOf99 (tab_get (j := i - 16) (show i - 16 < 64 by omega)) rfl fun ac hs => ?_)
          exact hs
        · intro L ac w hJ
          have hs := hJ
          refine wpO_plain rfl (op_move hs (some 5) rfl rfl rfl rfl fun ac hs => ?_)
          exact hs
        · intro L ac w hJ
          have hs := hJ
          refine wpO_plain rfl (op_bin hs (some 6) (v := .int .u32 ((x22 : Nat) : Int)) rfl rfl rfl rfl (fun _ => rfl) (bin_addM (x := (w64 l i) (i - 16)) (y := x15) (z := x22) rfl hx22) rfl fun ac hs => ?_)
          exact hs
        · intro L ac w hJ
          have hs := hJ
          refine wpO_plain rfl (op_move hs (some 7) rfl rfl rfl rfl fun ac hs => ?_)
          exact hs
        · intro L ac w hJ
          have hs := hJ
          refine wpO_plain rfl (op_bin hs (some 8) (v := .int .i64 ((i - 7 : Nat) : Int)) rfl rfl rfl rfl (fun _ => rfl) (bin_subN (x := i) (y := 7) (z := i - 7) (by omega) (show i - 7 < 9223372036854775808 by omega)) rfl fun ac hs => ?_)
          exact hs
        · intro L ac w hJ
          have hs := hJ
          refine wpO_plain rfl (op_idxA hs (some 9) (j := i - 7) rfl rfl rfl rfl Try.underlying109 Try.sizeOf99 (show i - 7 < 64 by omega) (off := i - 7) (by omega) rfl fun ac hs => ?_)
          exact hs
        · intro L ac w hJ
          have hs := hJ
          refine wpO_plain rfl (op_load hs (some 10) 1 (v := .int .u32 (((w64 l i) (i - 7) : Nat) : Int)) rfl rfl rfl rfl Try.isAgg99 Try.sizeOf99 (tab_get (j := i - 7) (show i - 7 < 64 by omega)) rfl fun ac hs => ?_)
          exact hs
        · intro L ac w hJ
          have hs := hJ
          refine wpO_plain rfl (op_bin hs (some 11) (v := .int .u32 ((x24 : Nat) : Int)) rfl rfl rfl rfl (fun _ => rfl) (bin_addM (x := x22) (y := (w64 l i) (i - 7)) (z := x24) rfl hx24) rfl fun ac hs => ?_)
          exact hs
        · intro L ac w hJ
          have hs := hJ
          refine wpO_plain rfl (op_move hs (some 12) rfl rfl rfl rfl fun ac hs => ?_)
          exact hs
        · intro L ac w hJ
          have hs := hJ
          refine wpO_plain rfl (op_bin hs (some 13) (v := .int .u32 ((x25 : Nat) : Int)) rfl rfl rfl rfl (fun _ => rfl) (bin_addM (x := x24) (y := x20) (z := x25) rfl hx25) rfl fun ac hs => ?_)
          exact hs
        · intro L ac w hJ
          have hs := hJ
          refine wpO_plain rfl (op_idxA hs (some 14) (j := i) rfl rfl rfl rfl Try.underlying109 Try.sizeOf99 (show i < 64 by omega) (off := i) (by omega) rfl fun ac hs => ?_)
          exact hs
        · intro L ac w hJ
          have hs := hJ
          refine wpO_plain rfl (op_store hs 1 (vs := [.int .u32 ((x25 : Nat) : Int)]) rfl rfl rfl rfl rfl Try.sizeOf99 rfl rfl rfl (tab_le (j := i) (show i < 64 by omega)) (tab_set) fun w hs => ?_)
          exact hs
      intro ac w hJ
      replace hs : St 82 ⟨w0, [], [(true, .cel (.slice ad l.length c) l.length (bcs l))], Z, noX⟩ [(66, true, .int .i64 ((i : Nat) : Int)), (67, true, .int .i64 ((i : Nat) : Int)), (68, true, .int .i64 ((i - 16 : Nat) : Int)), (69, true, .pointer (some ⟨g2, i - 16, none⟩)), (70, true, .int .u32 (((w64 l i) (i - 16) : Nat) : Int)), (71, true, .int .u32 ((x15 : Nat) : Int)), (72, true, .int .u32 ((x22 : Nat) : Int)), (73, true, .int .i64 ((i : Nat) : Int)), (74, true, .int .i64 ((i - 7 : Nat) : Int)), (75, true, .pointer (some ⟨g2, i - 7, none⟩)), (76, true, .int .u32 (((w64 l i) (i - 7) : Nat) : Int)), (77, true, .int .u32 ((x24 : Nat) : Int)), (78, true, .int .u32 ((x20 : Nat) : Int)), (79, true, .int .u32 ((x25 : Nat) : Int)), (80, true, .pointer (some ⟨g2, i, none⟩)), (2, true, .pointer (some ⟨g1, 0, none⟩)), (3, true, .pointer (some ⟨g2, 0, none⟩)), (7, true, .int .i64 ((i : Nat) : Int)), (10, true, .int .u32 ((x15 : Nat) : Int)), (11, true, .int .u32 ((x20 : Nat) : Int))] [(true, g1, 109, (tab .u32 64 (fun _ => 0))), (true, g2, 109, (tab .u32 64 (upn (w64 l i) i x25)))] ac w := hJ
      refine blk_n ?_
      refine then_n ?_
      refine wp_region_lit ?_
      refine lstep (wpO_plain rfl (op_move hs none rfl rfl rfl rfl fun ac hs => ?_))
      refine lstep (wpO_plain rfl (op_bin hs none (v := .int .i64 ((i + 1 : Nat) : Int)) rfl rfl rfl rfl (fun _ => rfl) (bin_addN (x := i) (y := 1) (z := i + 1) rfl (show i + 1 < 9223372036854775808 by omega)) rfl fun ac hs => ?_))
      refine lstep (wpO_plain rfl (op_assign hs none rfl rfl rfl rfl fun ac hs => ?_))
      refine wpList_nil ?_
      refine then_n ?_
      have hz : x25 = wv l i := by rw [wv_hi (by omega), w64_at (i := i) (j := i - 16) (by omega), w64_at (i := i) (j := i - 15) (by omega), w64_at (i := i) (j := i - 7) (by omega), w64_at (i := i) (j := i - 2) (by omega)]; simp only [ss0, ss1, hx11, hx12, hx13, hx14, hx15, hx16, hx17, hx18, hx19, hx20, hx22, hx24, hx25]
      replace hs := hs.setb 1 (cs' := (tab .u32 64 (w64 l (i + 1)))) rfl (tab_ext fun j hj => w64_step hz j)
      exact ⟨_, ⟨(i + 1), rfl, (by omega), (by omega), (hs.re (fs' := [(2, true, .pointer (some ⟨g1, 0, none⟩)), (3, true, .pointer (some ⟨g2, 0, none⟩)), (7, true, .int .i64 (((i + 1) : Nat) : Int))]) ⟨rfl, rfl, rfl, trivial⟩)⟩, (by omega)⟩
    · skip
      have hp26 := of_decide_eq_false hc
      obtain rfl : i = 64 := by have := of_decide_eq_false hc; omega
      replace hs := hs.setb 1 (cs' := (tab .u32 64 (wv l))) rfl (tab_ext fun j hj => w64_end hj)
      refine wp_exit ?_
      refine then_e ?_
      refine then_e ?_
      refine blk_e ?_
      refine then_n ?_
      refine wp_seq ?_
      refine wp_region_lit ?_
      refine lstep (wpO_plain rfl (op_load hs none 1 (v := At .u32 64 (wv l)) rfl rfl rfl rfl Try.isAgg109 Try.sizeOf109 ldv_tab rfl fun ac hs => ?_))
      refine lstep (wpO_plain rfl (op_store hs 0 (vs := (tab .u32 64 (wv l))) rfl rfl rfl rfl rfl Try.sizeOf109 (by kernel_rfl) tab_length' (tab_one _ _ _) tab_leA wr_tab fun w hs => ?_))
      refine wpList_nil ?_
      refine then_n ?_
      refine wp_ret ?_
      exact bodyPost_ret (res1 rfl (rv_c hs 0 (v := At .u32 64 (wv l)) rfl rfl Try.isAgg109 Try.sizeOf109 ldv_tab)) hs.defers ⟨(), rfl, hs.bel rfl, okl0⟩
theorem take_c (gs : Nat) (T : TypeId) (h : Nat → Nat) (sp : List Value) (hh : ∀ j, h j < 4294967296) (ad : Option Addr) (c : Nat) (l : List UInt8) (h64 : l.length = 64) (w0 : World) (Z X : Nat → Prop) (hm : Mem ⟨w0, [], [(true, .cel (.slice ad l.length c) l.length (bcs l))], Z, X⟩ [(true, gs, T, (tab .u32 8 h ++ sp))] w0) : Calls Try.prog 80 #[.pointer (some ⟨gs, 0, none⟩), .slice ad l.length c] w0 fun e w' => PostX w0 Z X (ρ := Unit) (fun r => .tuple #[]) (fun r => [(true, gs, T, tab .u32 8 (blk h l) ++ sp)]) (fun r => [(true, .cel (.slice ad l.length c) l.length (bcs l))]) e w' := by
  refine enterX (n := 116) (args := [.pointer (some ⟨gs, 0, none⟩), .slice ad l.length c]) Try.func80 rfl rfl (Nat.le_of_ble_eq_true rfl) hm fun ac hs => ?_
  refine wp_seq ?_
  refine wp_region_lit ?_
  refine lstep (wpO_plain rfl (op_move hs none rfl rfl rfl rfl fun ac hs => ?_))
  refine lstep (wpO_plain rfl (op_callS (F := 84) (ρ := Unit) hs none none (v := fun r => At .u32 64 (wv l)) (E := fun r => []) (j := 0) rfl rfl rfl rfl (Try.call84 _) (fun hs => spread_c ad l.length c l (show l.length = 64 by omega) _ _ (hs.all (k := 0) rfl rfl)) (fun _ => rfl) rfl rfl fun _ ac w hs => ?_))
  refine lstep (wpO_plain rfl (op_call (F := 85) hs none (v := At .u32 64 KK) rfl rfl rfl rfl (Try.call85 _) steps_c rfl fun ac w hs => ?_))
  refine lstep (wpO_plain rfl (op_alloc hs none none (cs := (tab .u32 64 (fun _ => 0))) rfl rfl Try.zeroValue109 (by kernel_rfl) rfl rfl fun g1 ac w hs => ?_))
  refine lstep (wpO_plain rfl (op_alloc hs none none (cs := (tab .u32 64 (fun _ => 0))) rfl rfl Try.zeroValue109 (by kernel_rfl) rfl rfl fun g2 ac w hs => ?_))
  refine lstep (wpO_plain rfl (op_store hs 1 (vs := (tab .u32 64 (wv l))) rfl rfl rfl rfl rfl Try.sizeOf109 (by kernel_rfl) tab_length' (tab_one _ _ _) tab_leA wr_tab fun w hs => ?_))
  refine lstep (wpO_plain rfl (op_store hs 2 (vs := (tab .u32 64 KK)) rfl rfl rfl rfl rfl Try.sizeOf109 (by kernel_rfl) tab_length' (tab_one _ _ _) tab_leA wr_tab fun w hs => ?_))
  refine wpList_nil ?_
  refine then_n ?_
  refine wp_seq ?_
  replace hs : St 116 ⟨w0, [], [(true, .cel (.slice ad l.length c) l.length (bcs l))], Z, X⟩ [(0, true, .pointer (some ⟨gs, 0, none⟩)), (4, true, .pointer (some ⟨g1, 0, none⟩)), (5, true, .pointer (some ⟨g2, 0, none⟩))] [(true, gs, T, (tab .u32 8 h ++ sp)), (true, g1, 109, (tab .u32 64 (wv l))), (true, g2, 109, (tab .u32 64 KK))] ac _ := hs.re ⟨rfl, rfl, rfl, trivial⟩
  refine wp_region_lit ?_
  refine lstep (wpO_plain rfl (op_move hs none rfl rfl rfl rfl fun ac hs => ?_))
  refine lstep (wpO_plain rfl (op_nilCheck hs none rfl rfl rfl rfl fun ac hs => ?_))
  refine lstep (wpO_plain rfl (op_load hs none 0 (v := At .u32 8 h) rfl rfl rfl rfl Try.isAgg101 Try.sizeOf101 ldv_tabs rfl fun ac hs => ?_))
  refine lstep (wpO_plain rfl (op_alloc hs none none (cs := (tab .u32 8 (fun _ => 0))) rfl rfl Try.zeroValue101 (by kernel_rfl) rfl rfl fun g3 ac w hs => ?_))
  refine lstep (wpO_plain rfl (op_store hs 3 (vs := (tab .u32 8 h)) rfl rfl rfl rfl rfl Try.sizeOf101 (by kernel_rfl) tab_length' (tab_one _ _ _) tab_leA wr_tab fun w hs => ?_))
  refine wpList_nil ?_
  refine then_n ?_
  refine wp_seq ?_
  refine wp_seq ?_
  refine wp_region_lit ?_
  refine lstep (wpO_plain rfl (op_move hs none rfl rfl rfl rfl fun ac hs => ?_))
  refine wpList_nil ?_
  refine then_n ?_
  refine wp_block ?_
  replace hs := hs.setb 3 (cs' := (tab .u32 8 (rnds (wv l) h 0))) rfl rfl
  refine wp_loop_m (fun μ ac w => ∃ (i : Nat), (64 - i) = μ ∧ (i ≤ 64) ∧ St 116 ⟨w0, [], [(true, .cel (.slice ad l.length c) l.length (bcs l))], Z, X⟩ [(0, true, .pointer (some ⟨gs, 0, none⟩)), (4, true, .pointer (some ⟨g1, 0, none⟩)), (5, true, .pointer (some ⟨g2, 0, none⟩)), (6, true, .pointer (some ⟨g3, 0, none⟩)), (19, true, .int .i64 ((i : Nat) : Int))] [(true, gs, T, (tab .u32 8 h ++ sp)), (true, g1, 109, (tab .u32 64 (wv l))), (true, g2, 109, (tab .u32 64 KK)), (true, g3, 101, (tab .u32 8 (rnds (wv l) h i)))] ac w) ?_ ?_
  · exact ⟨_, 0, rfl, (by omega), (hs.re (fs' := [(0, true, .pointer (some ⟨gs, 0, none⟩)), (4, true, .pointer (some ⟨g1, 0, none⟩)), (5, true, .pointer (some ⟨g2, 0, none⟩)), (6, true, .pointer (some ⟨g3, 0, none⟩)), (19, true, .int .i64 ((0 : Nat) : Int))]) ⟨rfl, rfl, rfl, rfl, rfl, trivial⟩)⟩
  intro μ ac w ⟨i, hμ, hi, hs⟩
  refine wp_seq ?_
  refine wp_region_lit ?_
  refine lstep (wpO_plain rfl (op_bin hs none (v := .bool (decide (i < 64))) rfl rfl rfl rfl (fun _ => rfl) (bin_lssN (x := i) (y := 64)) rfl fun ac hs => ?_))
  refine wpList_nil ?_
  refine then_n ?_
  refine wp_seq ?_
  refine wp_cond_split (hs.ev rfl) (fun hc => ?_) (fun hc => ?_)
  · skip
    have hp4 := of_decide_eq_true hc
    have hi64 := of_decide_eq_true hc
    refine wp_skip ?_
    refine then_n ?_
    refine wp_seq ?_
    refine wp_block ?_
    refine wp_seq ?_
    refine wp_region_lit ?_
    refine lstep (wpO_plain rfl (op_move hs none rfl rfl rfl rfl fun ac hs => ?_))
    refine lstep (wpO_plain rfl (op_assign hs none rfl rfl rfl rfl fun ac hs => ?_))
    refine wpList_nil ?_
    refine then_n ?_
    refine wp_seq ?_
    refine wp_region_lit ?_
    refine lstep (wpO_plain rfl (op_idxA hs none (j := 4) rfl rfl rfl rfl Try.underlying101 Try.sizeOf99 (by decide) (off := 4) rfl rfl fun ac hs => ?_))
    have l5 := rnds_lt (w := wv l) (h := h) hh i 4
    refine lstep (wpO_plain rfl (op_load hs none 3 (v := .int .u32 (((rnds (wv l) h i) 4 : Nat) : Int)) rfl rfl rfl rfl Try.isAgg99 Try.sizeOf99 (tab_get (j := 4) (by decide)) rfl fun ac hs => ?_))
    refine lstep (wpO_plain rfl (op_assign hs none rfl rfl rfl rfl fun ac hs => ?_))
    refine wpList_nil ?_
    refine then_n ?_
    refine wp_seq ?_
    replace hs : St 116 ⟨w0, [], [(true, .cel (.slice ad l.length c) l.length (bcs l))], Z, X⟩ [(0, true, .pointer (some ⟨gs, 0, none⟩)), (4, true, .pointer (some ⟨g1, 0, none⟩)), (5, true, .pointer (some ⟨g2, 0, none⟩)), (6, true, .pointer (some ⟨g3, 0, none⟩)), (19, true, .int .i64 ((i : Nat) : Int)), (7, true, .int .i64 ((i : Nat) : Int)), (8, true, .int .u32 (((rnds (wv l) h i) 4 : Nat) : Int))] [(true, gs, T, (tab .u32 8 h ++ sp)), (true, g1, 109, (tab .u32 64 (wv l))), (true, g2, 109, (tab .u32 64 KK)), (true, g3, 101, (tab .u32 8 (rnds (wv l) h i)))] ac _ := hs.re ⟨rfl, rfl, rfl, rfl, rfl, rfl, rfl, trivial⟩
    have l6 := rnds_lt (w := wv l) (h := h) hh i 7
    obtain ⟨x7, hx7, lx7⟩ : ∃ z0, rr ((rnds (wv l) h i) 4) 6 = z0 ∧ z0 < 4294967296 := ⟨_, rfl, rr_lt (show (rnds (wv l) h i) 4 < 4294967296 by omega)⟩
    obtain ⟨x8, hx8, lx8⟩ : ∃ z0, rr ((rnds (wv l) h i) 4) 11 = z0 ∧ z0 < 4294967296 := ⟨_, rfl, rr_lt (show (rnds (wv l) h i) 4 < 4294967296 by omega)⟩
    obtain ⟨x9, hx9, lx9⟩ : ∃ z0, x7 ^^^ x8 = z0 ∧ z0 < 4294967296 := ⟨_, rfl, x32 (show x7 < 4294967296 by omega) (show x8 < 4294967296 by omega)⟩
    obtain ⟨x10, hx10, lx10⟩ : ∃ z0, rr ((rnds (wv l) h i) 4) 25 = z0 ∧ z0 < 4294967296 := ⟨_, rfl, rr_lt (show (rnds (wv l) h i) 4 < 4294967296 by omega)⟩
    obtain ⟨x11, hx11, lx11⟩ : ∃ z0, x9 ^^^ x10 = z0 ∧ z0 < 4294967296 := ⟨_, rfl, x32 (show x9 < 4294967296 by omega) (show x10 < 4294967296 by omega)⟩
    obtain ⟨x12, hx12, lx12⟩ : ∃ z0, ((rnds (wv l) h i) 7 + x11) % 4294967296 = z0 ∧ z0 < 4294967296 := ⟨_, rfl, m32 _⟩
    have l13 := rnds_lt (w := wv l) (h := h) hh i 5
    obtain ⟨x14, hx14, lx14⟩ : ∃ z0, ((rnds (wv l) h i) 4) &&& ((rnds (wv l) h i) 5) = z0 ∧ z0 < 4294967296 := ⟨_, rfl, a32 (show (rnds (wv l) h i) 5 < 4294967296 by omega)⟩
    obtain ⟨x15, hx15, lx15⟩ : ∃ z0, 4294967295 - ((rnds (wv l) h i) 4) = z0 ∧ z0 < 4294967296 := ⟨_, rfl, by omega⟩
    have l16 := rnds_lt (w := wv l) (h := h) hh i 6
    obtain ⟨x17, hx17, lx17⟩ : ∃ z0, x15 &&& ((rnds (wv l) h i) 6) = z0 ∧ z0 < 4294967296 := ⟨_, rfl, a32 (show (rnds (wv l) h i) 6 < 4294967296 by omega)⟩
    obtain ⟨x18, hx18, lx18⟩ : ∃ z0, x14 ^^^ x17 = z0 ∧ z0 < 4294967296 := ⟨_, rfl, x32 (show x14 < 4294967296 by omega) (show x17 < 4294967296 by omega)⟩
    obtain ⟨x19, hx19, lx19⟩ : ∃ z0, (x12 + x18) % 4294967296 = z0 ∧ z0 < 4294967296 := ⟨_, rfl, m32 _⟩
    have l20 := KK_lt i
    obtain ⟨x21, hx21, lx21⟩ : ∃ z0, (x19 + (KK i)) % 4294967296 = z0 ∧ z0 < 4294967296 := ⟨_, rfl, m32 _⟩
    have l22 := wv_lt l i
    obtain ⟨x23, hx23, lx23⟩ : ∃ z0, (x21 + ((wv l) i)) % 4294967296 = z0 ∧ z0 < 4294967296 := ⟨_, rfl, m32 _⟩
    refine region_inv [([], [1, 10, 21, 25, 29, 30]), ([0], [10, 21, 25, 29, 30]), ([], [3, 5, 6, 8, 9, 10, 21, 25, 29, 30]), ([2], [5, 6, 8, 9, 10, 21, 25, 29, 30]), ([], [5, 6, 8, 9, 10, 21, 25, 29, 30]), ([2, 3, 4], [6, 8, 9, 10, 21, 25, 29, 30]), ([2, 3, 4, 5], [9, 10, 21, 25, 29, 30]), ([], [8, 9, 10, 21, 25, 29, 30]), ([2, 3, 4, 5, 7], [9, 10, 21, 25, 29, 30]), ([2, 3, 4, 5, 6, 7, 8], [10, 21, 25, 29, 30]), ([0, 1, 2, 3, 4, 5, 6, 7, 8, 9], [21, 25, 29, 30]), ([], [14, 20, 21, 25, 29, 30]), ([], [13, 14, 20, 21, 25, 29, 30]), ([12], [14, 20, 21, 25, 29, 30]), ([11, 12, 13], [20, 21, 25, 29, 30]), ([], [16, 19, 20, 21, 25, 29, 30]), ([15], [19, 20, 21, 25, 29, 30]), ([], [18, 19, 20, 21, 25, 29, 30]), ([17], [19, 20, 21, 25, 29, 30]), ([15, 16, 17, 18], [20, 21, 25, 29, 30]), ([11, 12, 13, 14, 15, 16, 17, 18, 19], [21, 25, 29, 30]), ([0, 1, 2, 3, 4, 5, 6, 7, 8, 9, 10, 11, 12, 13, 14, 15, 16, 17, 18, 19, 20], [25, 29, 30]), ([], [23, 24, 25, 29, 30]), ([22], [24, 25, 29, 30]), ([22, 23], [25, 29, 30]), ([0, 1, 2, 3, 4, 5, 6, 7, 8, 9, 10, 11, 12, 13, 14, 15, 16, 17, 18, 19, 20, 21, 22, 23, 24], [29, 30]), ([], [27, 28, 29, 30]), ([26], [28, 29, 30]), ([26, 27], [29, 30]), ([0, 1, 2, 3, 4, 5, 6, 7, 8, 9, 10, 11, 12, 13, 14, 15, 16, 17, 18, 19, 20, 21, 22, 23, 24, 25, 26, 27, 28], [30]), ([0, 1, 2, 3, 4, 5, 6, 7, 8, 9, 10, 11, 12, 13, 14, 15, 16, 17, 18, 19, 20, 21, 22, 23, 24, 25, 26, 27, 28, 29], [])] (fun L ac w => St 116 ⟨w0, [], [(true, .cel (.slice ad l.length c) l.length (bcs l))], Z, X⟩ [(24, L 0, .pointer (some ⟨g3, 7, none⟩)), (25, L 1, .int .u32 (((rnds (wv l) h i) 7 : Nat) : Int)), (26, L 2, .int .u32 (((rnds (wv l) h i) 4 : Nat) : Int)), (27, L 3, .int .u32 ((x7 : Nat) : Int)), (28, L 4, .int .u32 (((rnds (wv l) h i) 4 : Nat) : Int)), (29, L 5, .int .u32 ((x8 : Nat) : Int)), (30, L 6, .int .u32 ((x9 : Nat) : Int)), (31, L 7, .int .u32 (((rnds (wv l) h i) 4 : Nat) : Int)), (32, L 8, .int .u32 ((x10 : Nat) : Int)), (33, L 9, .int .u32 ((x11 : Nat) : Int)), (34, L 10, .int .u32 ((x12 : Nat) : Int)), (35, L 11, .int .u32 (((rnds (wv l) h i) 4 : Nat) : Int)), (36, L 12, .pointer (some ⟨g3, 5, none⟩)), (37, L 13, .int .u32 (((rnds (wv l) h i) 5 : Nat) : Int)), (38, L 14, .int .u32 ((x14 : Nat) : Int)), (39, L 15, .int .u32 (((rnds (wv l) h i) 4 : Nat) : Int)), (40, L 16, .int .u32 ((x15 : Nat) : Int)), (41, L 17, .pointer (some ⟨g3, 6, none⟩)), (42, L 18, .int .u32 (((rnds (wv l) h i) 6 : Nat) : Int)), (43, L 19, .int .u32 ((x17 : Nat) : Int)), (44, L 20, .int .u32 ((x18 : Nat) : Int)), (45, L 21, .int .u32 ((x19 : Nat) : Int)), (46, L 22, .int .i64 ((i : Nat) : Int)), (47, L 23, .pointer (some ⟨g2, i, none⟩)), (48, L 24, .int .u32 ((KK i : Nat) : Int)), (49, L 25, .int .u32 ((x21 : Nat) : Int)), (50, L 26, .int .i64 ((i : Nat) : Int)), (51, L 27, .pointer (some ⟨g1, i, none⟩)), (52, L 28, .int .u32 (((wv l) i : Nat) : Int)), (53, L 29, .int .u32 ((x23 : Nat) : Int)), (9, L 30, .int .u32 ((x23 : Nat) : Int)), (0, true, .pointer (some ⟨gs, 0, none⟩)), (4, true, .pointer (some ⟨g1, 0, none⟩)), (5, true, .pointer (some ⟨g2, 0, none⟩)), (6, true, .pointer (some ⟨g3, 0, none⟩)), (19, true, .int .i64 ((i : Nat) : Int)), (7, true, .int .i64 ((i : Nat) : Int)), (8, true, .int .u32 (((rnds (wv l) h i) 4 : Nat) : Int))] [(true, gs, T, (tab .u32 8 h ++ sp)), (true, g1, 109, (tab .u32 64 (wv l))), (true, g2, 109, (tab .u32 64 KK)), (true, g3, 101, (tab .u32 8 (rnds (wv l) h i)))] ac w) (by kernel_rfl) (by kernel_rfl) ?_ ?_ ?_
    · exact hs.drew.skip.skip.skip.skip.skip.skip.skip.skip.skip.skip.skip.skip.skip.skip.skip.skip.skip.skip.skip.skip.skip.skip.skip.skip.skip.skip.skip.skip.skip.skip.skip
    · refine ⟨?_, ?_, ?_, ?_, ?_, ?_, ?_, ?_, ?_, ?_, ?_, ?_, ?_, ?_, ?_, ?_, ?_, ?_, ?_, ?_, ?_, ?_, ?_, ?_, ?_, ?_, ?_, ?_, ?_, ?_, ?_, trivial⟩
      · intro L ac w hJ
        have hs := hJ
        refine wpO_plain rfl (op_idxA hs (some 0) (j := 7) rfl rfl rfl rfl Try.underlying101 Try.sizeOf99 (by decide) (off := 7) rfl rfl fun ac hs => ?_)
        exact hs
      · intro L ac w hJ
        have hs := hJ
        refine wpO_plain rfl (op_load hs (some 1) 3 (v := .int .u32 (((rnds (wv l) h i) 7 : Nat) : Int)) rfl rfl rfl rfl Try.isAgg99 Try.sizeOf99 (tab_get (j := 7) (by decide)) rfl fun ac hs => ?_)
        exact hs
      · intro L ac w hJ
        have hs := hJ
        refine wpO_plain rfl (op_move hs (some 2) rfl rfl rfl rfl fun ac hs => ?_)
        exact hs
      · intro L ac w hJ
        have hs := hJ
        refine wpO_plain rfl (op_call (F := 86) hs (some 3) (v := .int .u32 ((x7 : Nat) : Int)) rfl rfl rfl rfl (Try.call86 _) (rot_c ((rnds (wv l) h i) 4) 6 x7 (show (rnds (wv l) h i) 4 < 4294967296 by omega) (by decide) (by decide) hx7) rfl fun ac w hs => ?_)
        exact hs
      · intro L ac w hJ
        have hs := hJ
        refine wpO_plain rfl (op_move hs (some 4) rfl rfl rfl rfl fun ac hs => ?_)
        exact hs
      · intro L ac w hJ
        have hs := hJ
        refine wpO_plain rfl (op_call (F := 86) hs (some 5) (v := .int .u32 ((x8 : Nat) : Int)) rfl rfl rfl rfl (Try.call86 _) (rot_c ((rnds (wv l) h i) 4) 11 x8 (show (rnds (wv l) h i) 4 < 4294967296 by omega) (by decide) (by decide) hx8) rfl fun ac w hs => ?_)
        exact hs
      · intro L ac w hJ
        have hs := hJ
        refine wpO_plain rfl (op_bin hs (some 6) (v := .int .u32 ((x9 : Nat) : Int)) rfl rfl rfl rfl (fun _ => rfl) (bin_xorN (x := x7) (y := x8) (z := x9) hx9 (show x7 < 4294967296 by omega) (show x8 < 4294967296 by omega) lx9) rfl fun ac hs => ?_)
        exact hs
      · intro L ac w hJ
        have hs := hJ
        refine wpO_plain rfl (op_move hs (some 7) rfl rfl rfl rfl fun ac hs => ?_)
        exact hs
      · intro L ac w hJ
        have hs := hJ
        refine wpO_plain rfl (op_call (F := 86) hs (some 8) (v := .int .u32 ((x10 : Nat) : Int)) rfl rfl rfl rfl (Try.call86 _) (rot_c ((rnds (wv l) h i) 4) 25 x10 (show (rnds (wv l) h i) 4 < 4294967296 by omega) (by decide) (by decide) hx10) rfl fun ac w hs => ?_)
        exact hs
      · intro L ac w hJ
        have hs := hJ
        refine wpO_plain rfl (op_bin hs (some 9) (v := .int .u32 ((x11 : Nat) : Int)) rfl rfl rfl rfl (fun _ => rfl) (bin_xorN (x := x9) (y := x10) (z := x11) hx11 (show x9 < 4294967296 by omega) (show x10 < 4294967296 by omega) lx11) rfl fun ac hs => ?_)
        exact hs
      · intro L ac w hJ
        have hs := hJ
        refine wpO_plain rfl (op_bin hs (some 10) (v := .int .u32 ((x12 : Nat) : Int)) rfl rfl rfl rfl (fun _ => rfl) (bin_addM (x := (rnds (wv l) h i) 7) (y := x11) (z := x12) rfl hx12) rfl fun ac hs => ?_)
        exact hs
      · intro L ac w hJ
        have hs := hJ
        refine wpO_plain rfl (op_move hs (some 11) rfl rfl rfl rfl fun ac hs => ?_)
        exact hs
      · intro L ac w hJ
        have hs := hJ
        refine wpO_plain rfl (op_idxA hs (some 12) (j := 5) rfl rfl rfl rfl Try.underlying101 Try.sizeOf99 (by decide) (off := 5) rfl rfl fun ac hs => ?_)
        exact hs
      · intro L ac w hJ
        have hs := hJ
        refine wpO_plain rfl (op_load hs (some 13) 3 (v := .int .u32 (((rnds (wv l) h i) 5 : Nat) : Int)) rfl rfl rfl rfl Try.isAgg99 Try.sizeOf99 (tab_get (j := 5) (by decide)) rfl fun ac hs => ?_)
        exact hs
      · intro L ac w hJ
        have hs := hJ
        refine wpO_plain rfl (op_bin hs (some 14) (v := .int .u32 ((x14 : Nat) : Int)) rfl rfl rfl rfl (fun _ => rfl) (bin_andN (x := (rnds (wv l) h i) 4) (y := (rnds (wv l) h i) 5) (z := x14) hx14 (show (rnds (wv l) h i) 4 < 4294967296 by omega) (show (rnds (wv l) h i) 5 < 4294967296 by omega) lx14) rfl fun ac hs => ?_)
        exact hs
      · intro L ac w hJ
        have hs := hJ
        refine wpO_plain rfl (op_move hs (some 15) rfl rfl rfl rfl fun ac hs => ?_)
        exact hs
      · intro L ac w hJ
        have hs := hJ
        refine wpO_plain rfl (op_un hs (some 16) (v := .int .u32 ((x15 : Nat) : Int)) rfl rfl rfl (fun w => hx15 ▸ un_not32 (by omega) w) rfl fun ac hs => ?_)
        exact hs
      · intro L ac w hJ
        have hs := hJ
        refine wpO_plain rfl (op_idxA hs (some 17) (j := 6) rfl rfl rfl rfl Try.underlying101 Try.sizeOf99 (by decide) (off := 6) rfl rfl fun ac hs => ?_)
        exact hs
      · intro L ac w hJ
        have hs := hJ
        refine wpO_plain rfl (op_load hs (some 18) 3 (v := .int .u32 (((rnds (wv l) h i) 6 : Nat) : Int)) rfl rfl rfl rfl Try.isAgg99 Try.sizeOf99 (tab_get (j := 6) (by decide)) rfl fun ac hs => ?_)
        exact hs
      · intro L ac w hJ
        have hs := hJ
        refine wpO_plain rfl (op_bin hs (some 19) (v := .int .u32 ((x17 : Nat) : Int)) rfl rfl rfl rfl (fun _ => rfl) (bin_andN (x := x15) (y := (rnds (wv l) h i) 6) (z := x17) hx17 (show x15 < 4294967296 by omega) (show (rnds (wv l) h i) 6 < 4294967296 by omega) lx17) rfl fun ac hs => ?_)
        exact hs
      · intro L ac w hJ
        have hs := hJ
        refine wpO_plain rfl (op_bin hs (some 20) (v := .int .u32 ((x18 : Nat) : Int)) rfl rfl rfl rfl (fun _ => rfl) (bin_xorN (x := x14) (y := x17) (z := x18) hx18 (show x14 < 4294967296 by omega) (show x17 < 4294967296 by omega) lx18) rfl fun ac hs => ?_)
        exact hs
      · intro L ac w hJ
        have hs := hJ
        refine wpO_plain rfl (op_bin hs (some 21) (v := .int .u32 ((x19 : Nat) : Int)) rfl rfl rfl rfl (fun _ => rfl) (bin_addM (x := x12) (y := x18) (z := x19) rfl hx19) rfl fun ac hs => ?_)
        exact hs
      · intro L ac w hJ
        have hs := hJ
        refine wpO_plain rfl (op_move hs (some 22) rfl rfl rfl rfl fun ac hs => ?_)
        exact hs
      · intro L ac w hJ
        have hs := hJ
        refine wpO_plain rfl (op_idxA hs (some 23) (j := i) rfl rfl rfl rfl Try.underlying109 Try.sizeOf99 (show i < 64 by omega) (off := i) (by omega) rfl fun ac hs => ?_)
        exact hs
      · intro L ac w hJ
        have hs := hJ
        refine wpO_plain rfl (op_load hs (some 24) 2 (v := .int .u32 ((KK i : Nat) : Int)) rfl rfl rfl rfl Try.isAgg99 Try.sizeOf99 (tab_get (j := i) (show i < 64 by omega)) rfl fun ac hs => ?_)
        exact hs
      · intro L ac w hJ
        have hs := hJ
        refine wpO_plain rfl (op_bin hs (some 25) (v := .int .u32 ((x21 : Nat) : Int)) rfl rfl rfl rfl (fun _ => rfl) (bin_addM (x := x19) (y := KK i) (z := x21) rfl hx21) rfl fun ac hs => ?_)
        exact hs
      · intro L ac w hJ
        have hs := hJ
        refine wpO_plain rfl (op_move hs (some 26) rfl rfl rfl rfl fun ac hs => ?_)
        exact hs
      · intro L ac w hJ
        have hs := hJ
        refine wpO_plain rfl (op_idxA hs (some 27) (j := i) rfl rfl rfl rfl Try.underlying109 Try.sizeOf99 (show i < 64 by omega) (off := i) (by omega) rfl fun ac hs => ?_)
        exact hs
      · intro L ac w hJ
        have hs := hJ
        refine wpO_plain rfl (op_load hs (some 28) 1 (v := .int .u32 (((wv l) i : Nat) : Int)) rfl rfl rfl rfl Try.isAgg99 Try.sizeOf99 (tab_get (j := i) (show i < 64 by omega)) rfl fun ac hs => ?_)
        exact hs
      · intro L ac w hJ
        have hs := hJ
        refine wpO_plain rfl (op_bin hs (some 29) (v := .int .u32 ((x23 : Nat) : Int)) rfl rfl rfl rfl (fun _ => rfl) (bin_addM (x := x21) (y := (wv l) i) (z := x23) rfl hx23) rfl fun ac hs => ?_)
        exact hs
      · intro L ac w hJ
        have hs := hJ
        refine wpO_plain rfl (op_assign hs (some 30) rfl rfl rfl rfl fun ac hs => ?_)
        exact hs
    intro ac w hJ
    replace hs : St 116 ⟨w0, [], [(true, .cel (.slice ad l.length c) l.length (bcs l))], Z, X⟩ [(24, true, .pointer (some ⟨g3, 7, none⟩)), (25, true, .int .u32 (((rnds (wv l) h i) 7 : Nat) : Int)), (26, true, .int .u32 (((rnds (wv l) h i) 4 : Nat) : Int)), (27, true, .int .u32 ((x7 : Nat) : Int)), (28, true, .int .u32 (((rnds (wv l) h i) 4 : Nat) : Int)), (29, true, .int .u32 ((x8 : Nat) : Int)), (30, true, .int .u32 ((x9 : Nat) : Int)), (31, true, .int .u32 (((rnds (wv l) h i) 4 : Nat) : Int)), (32, true, .int .u32 ((x10 : Nat) : Int)), (33, true, .int .u32 ((x11 : Nat) : Int)), (34, true, .int .u32 ((x12 : Nat) : Int)), (35, true, .int .u32 (((rnds (wv l) h i) 4 : Nat) : Int)), (36, true, .pointer (some ⟨g3, 5, none⟩)), (37, true, .int .u32 (((rnds (wv l) h i) 5 : Nat) : Int)), (38, true, .int .u32 ((x14 : Nat) : Int)), (39, true, .int .u32 (((rnds (wv l) h i) 4 : Nat) : Int)), (40, true, .int .u32 ((x15 : Nat) : Int)), (41, true, .pointer (some ⟨g3, 6, none⟩)), (42, true, .int .u32 (((rnds (wv l) h i) 6 : Nat) : Int)), (43, true, .int .u32 ((x17 : Nat) : Int)), (44, true, .int .u32 ((x18 : Nat) : Int)), (45, true, .int .u32 ((x19 : Nat) : Int)), (46, true, .int .i64 ((i : Nat) : Int)), (47, true, .pointer (some ⟨g2, i, none⟩)), (48, true, .int .u32 ((KK i : Nat) : Int)), (49, true, .int .u32 ((x21 : Nat) : Int)), (50, true, .int .i64 ((i : Nat) : Int)), (51, true, .pointer (some ⟨g1, i, none⟩)), (52, true, .int .u32 (((wv l) i : Nat) : Int)), (53, true, .int .u32 ((x23 : Nat) : Int)), (9, true, .int .u32 ((x23 : Nat) : Int)), (0, true, .pointer (some ⟨gs, 0, none⟩)), (4, true, .pointer (some ⟨g1, 0, none⟩)), (5, true, .pointer (some ⟨g2, 0, none⟩)), (6, true, .pointer (some ⟨g3, 0, none⟩)), (19, true, .int .i64 ((i : Nat) : Int)), (7, true, .int .i64 ((i : Nat) : Int)), (8, true, .int .u32 (((rnds (wv l) h i) 4 : Nat) : Int))] [(true, gs, T, (tab .u32 8 h ++ sp)), (true, g1, 109, (tab .u32 64 (wv l))), (true, g2, 109, (tab .u32 64 KK)), (true, g3, 101, (tab .u32 8 (rnds (wv l) h i)))] ac w := hJ
    refine then_n ?_
    refine wp_seq ?_
    refine wp_region_lit ?_
    refine lstep (wpO_plain rfl (op_idxA hs none (j := 0) rfl rfl rfl rfl Try.underlying101 Try.sizeOf99 (by decide) (off := 0) rfl rfl fun ac hs => ?_))
    have l24 := rnds_lt (w := wv l) (h := h) hh i 0
    refine lstep (wpO_plain rfl (op_load hs none 3 (v := .int .u32 (((rnds (wv l) h i) 0 : Nat) : Int)) rfl rfl rfl rfl Try.isAgg99 Try.sizeOf99 (tab_get (j := 0) (by decide)) rfl fun ac hs => ?_))
    refine lstep (wpO_plain rfl (op_assign hs none rfl rfl rfl rfl fun ac hs => ?_))
    refine wpList_nil ?_
    refine then_n ?_
    refine wp_seq ?_
    replace hs : St 116 ⟨w0, [], [(true, .cel (.slice ad l.length c) l.length (bcs l))], Z, X⟩ [(0, true, .pointer (some ⟨gs, 0, none⟩)), (4, true, .pointer (some ⟨g1, 0, none⟩)), (5, true, .pointer (some ⟨g2, 0, none⟩)), (6, true, .pointer (some ⟨g3, 0, none⟩)), (19, true, .int .i64 ((i : Nat) : Int)), (9, true, .int .u32 ((x23 : Nat) : Int)), (10, true, .int .u32 (((rnds (wv l) h i) 0 : Nat) : Int))] [(true, gs, T, (tab .u32 8 h ++ sp)), (true, g1, 109, (tab .u32 64 (wv l))), (true, g2, 109, (tab .u32 64 KK)), (true, g3, 101, (tab .u32 8 (rnds (wv l) h i)))] ac _ := hs.re ⟨rfl, rfl, rfl, rfl, rfl, rfl, rfl, trivial⟩
    obtain ⟨x25, hx25, lx25⟩ : ∃ z0, rr ((rnds (wv l) h i) 0) 2 = z0 ∧ z0 < 4294967296 := ⟨_, rfl, rr_lt (show (rnds (wv l) h i) 0 < 4294967296 by omega)⟩
    obtain ⟨x26, hx26, lx26⟩ : ∃ z0, rr ((rnds (wv l) h i) 0) 13 = z0 ∧ z0 < 4294967296 := ⟨_, rfl, rr_lt (show (rnds (wv l) h i) 0 < 4294967296 by omega)⟩
    obtain ⟨x27, hx27, lx27⟩ : ∃ z0, x25 ^^^ x26 = z0 ∧ z0 < 4294967296 := ⟨_, rfl, x32 (show x25 < 4294967296 by omega) (show x26 < 4294967296 by omega)⟩
    obtain ⟨x28, hx28, lx28⟩ : ∃ z0, rr ((rnds (wv l) h i) 0) 22 = z0 ∧ z0 < 4294967296 := ⟨_, rfl, rr_lt (show (rnds (wv l) h i) 0 < 4294967296 by omega)⟩
    obtain ⟨x29, hx29, lx29⟩ : ∃ z0, x27 ^^^ x28 = z0 ∧ z0 < 4294967296 := ⟨_, rfl, x32 (show x27 < 4294967296 by omega) (show x28 < 4294967296 by omega)⟩
    have l30 := rnds_lt (w := wv l) (h := h) hh i 1
    obtain ⟨x31, hx31, lx31⟩ : ∃ z0, ((rnds (wv l) h i) 0) &&& ((rnds (wv l) h i) 1) = z0 ∧ z0 < 4294967296 := ⟨_, rfl, a32 (show (rnds (wv l) h i) 1 < 4294967296 by omega)⟩
    have l32 := rnds_lt (w := wv l) (h := h) hh i 2
    obtain ⟨x33, hx33, lx33⟩ : ∃ z0, ((rnds (wv l) h i) 0) &&& ((rnds (wv l) h i) 2) = z0 ∧ z0 < 4294967296 := ⟨_, rfl, a32 (show (rnds (wv l) h i) 2 < 4294967296 by omega)⟩
    obtain ⟨x34, hx34, lx34⟩ : ∃ z0, x31 ^^^ x33 = z0 ∧ z0 < 4294967296 := ⟨_, rfl, x32 (show x31 < 4294967296 by omega) (show x33 < 4294967296 by omega)⟩
    have l35 := rnds_lt (w := wv l) (h := h) hh i 1
    have l36 := rnds_lt (w := wv l) (h := h) hh i 2
    obtain ⟨x37, hx37, lx37⟩ : ∃ z0, ((rnds (wv l) h i) 1) &&& ((rnds (wv l) h i) 2) = z0 ∧ z0 < 4294967296 := ⟨_, rfl, a32 (show (rnds (wv l) h i) 2 < 4294967296 by omega)⟩
    obtain ⟨x38, hx38, lx38⟩ : ∃ z0, x34 ^^^ x37 = z0 ∧ z0 < 4294967296 := ⟨_, rfl, x32 (show x34 < 4294967296 by omega) (show x37 < 4294967296 by omega)⟩
    obtain ⟨x39, hx39, lx39⟩ : ∃ z0, (x29 + x38) % 4294967296 = z0 ∧ z0 < 4294967296 := ⟨_, rfl, m32 _⟩
    refine region_inv [([], [1, 3, 4, 6, 7, 23, 24]), ([0], [3, 4, 6, 7, 23, 24]), ([], [3, 4, 6, 7, 23, 24]), ([0, 1, 2], [4, 6, 7, 23, 24]), ([0, 1, 2, 3], [7, 23, 24]), ([], [6, 7, 23, 24]), ([0, 1, 2, 3, 5], [7, 23, 24]), ([0, 1, 2, 3, 4, 5, 6], [23, 24]), ([], [11, 16, 22, 23, 24]), ([], [10, 11, 16, 22, 23, 24]), ([9], [11, 16, 22, 23, 24]), ([8, 9, 10], [16, 22, 23, 24]), ([], [15, 16, 22, 23, 24]), ([], [14, 15, 16, 22, 23, 24]), ([13], [15, 16, 22, 23, 24]), ([12, 13, 14], [16, 22, 23, 24]), ([8, 9, 10, 11, 12, 13, 14, 15], [22, 23, 24]), ([], [18, 21, 22, 23, 24]), ([17], [21, 22, 23, 24]), ([], [20, 21, 22, 23, 24]), ([19], [21, 22, 23, 24]), ([17, 18, 19, 20], [22, 23, 24]), ([8, 9, 10, 11, 12, 13, 14, 15, 16, 17, 18, 19, 20, 21], [23, 24]), ([0, 1, 2, 3, 4, 5, 6, 7, 8, 9, 10, 11, 12, 13, 14, 15, 16, 17, 18, 19, 20, 21, 22], [24]), ([0, 1, 2, 3, 4, 5, 6, 7, 8, 9, 10, 11, 12, 13, 14, 15, 16, 17, 18, 19, 20, 21, 22, 23], [])] (fun L ac w => St 116 ⟨w0, [], [(true, .cel (.slice ad l.length c) l.length (bcs l))], Z, X⟩ [(56, L 0, .int .u32 (((rnds (wv l) h i) 0 : Nat) : Int)), (57, L 1, .int .u32 ((x25 : Nat) : Int)), (58, L 2, .int .u32 (((rnds (wv l) h i) 0 : Nat) : Int)), (59, L 3, .int .u32 ((x26 : Nat) : Int)), (60, L 4, .int .u32 ((x27 : Nat) : Int)), (61, L 5, .int .u32 (((rnds (wv l) h i) 0 : Nat) : Int)), (62, L 6, .int .u32 ((x28 : Nat) : Int)), (63, L 7, .int .u32 ((x29 : Nat) : Int)), (64, L 8, .int .u32 (((rnds (wv l) h i) 0 : Nat) : Int)), (65, L 9, .pointer (some ⟨g3, 1, none⟩)), (66, L 10, .int .u32 (((rnds (wv l) h i) 1 : Nat) : Int)), (67, L 11, .int .u32 ((x31 : Nat) : Int)), (68, L 12, .int .u32 (((rnds (wv l) h i) 0 : Nat) : Int)), (69, L 13, .pointer (some ⟨g3, 2, none⟩)), (70, L 14, .int .u32 (((rnds (wv l) h i) 2 : Nat) : Int)), (71, L 15, .int .u32 ((x33 : Nat) : Int)), (72, L 16, .int .u32 ((x34 : Nat) : Int)), (73, L 17, .pointer (some ⟨g3, 1, none⟩)), (74, L 18, .int .u32 (((rnds (wv l) h i) 1 : Nat) : Int)), (75, L 19, .pointer (some ⟨g3, 2, none⟩)), (76, L 20, .int .u32 (((rnds (wv l) h i) 2 : Nat) : Int)), (77, L 21, .int .u32 ((x37 : Nat) : Int)), (78, L 22, .int .u32 ((x38 : Nat) : Int)), (79, L 23, .int .u32 ((x39 : Nat) : Int)), (11, L 24, .int .u32 ((x39 : Nat) : Int)), (0, true, .pointer (some ⟨gs, 0, none⟩)), (4, true, .pointer (some ⟨g1, 0, none⟩)), (5, true, .pointer (some ⟨g2, 0, none⟩)), (6, true, .pointer (some ⟨g3, 0, none⟩)), (19, true, .int .i64 ((i : Nat) : Int)), (9, true, .int .u32 ((x23 : Nat) : Int)), (10, true, .int .u32 (((rnds (wv l) h i) 0 : Nat) : Int))] [(true, gs, T, (tab .u32 8 h ++ sp)), (true, g1, 109, (tab .u32 64 (wv l))), (true, g2, 109, (tab .u32 64 KK)), (true, g3, 101, (tab .u32 8 (rnds (wv l) h i)))] ac w) (by kernel_rfl) (by kernel_rfl) ?_ ?_ ?_
    · exact hs.drew.skip.skip.skip.skip.skip.skip.skip.skip.skip.skip.skip.skip.skip.skip.skip.skip.skip.skip.skip.skip.skip.skip.skip.skip.skip
    · refine ⟨?_, ?_, ?_, ?_, ?_, ?_, ?_, ?_, ?_, ?_, ?_, ?_, ?_, ?_, ?_, ?_, ?_, ?_, ?_, ?_, ?_, ?_, ?_, ?_, ?_, trivial⟩
      · intro L ac w hJ
        have hs := hJ
        refine wpO_plain rfl (op_move hs (some 0) rfl rfl rfl rfl fun ac hs => ?_)
        exact hs
      · intro L ac w hJ
        have hs := hJ
        refine wpO_plain rfl (op_call (F := 86) hs (some 1) (v := .int .u32 ((x25 : Nat) : Int)) rfl rfl rfl rfl (Try.call86 _) (rot_c ((rnds (wv l) h i) 0) 2 x25 (show (rnds (wv l) h i) 0 < 4294967296 by omega) (by decide) (by decide) hx25) rfl fun ac w hs => ?_)
        exact hs
      · intro L ac w hJ
        have hs := hJ
        refine wpO_plain rfl (op_move hs (some 2) rfl rfl rfl rfl fun ac hs => ?_)
        exact hs
      · intro L ac w hJ
        have hs := hJ
        refine wpO_plain rfl (op_call (F := 86) hs (some 3) (v := .int .u32 ((x26 : Nat) : Int)) rfl rfl rfl rfl (Try.call86 _) (rot_c ((rnds (wv l) h i) 0) 13 x26 (show (rnds (wv l) h i) 0 < 4294967296 by omega) (by decide) (by decide) hx26) rfl fun ac w hs => ?_)
        exact hs
      · intro L ac w hJ
        have hs := hJ
        refine wpO_plain rfl (op_bin hs (some 4) (v := .int .u32 ((x27 : Nat) : Int)) rfl rfl rfl rfl (fun _ => rfl) (bin_xorN (x := x25) (y := x26) (z := x27) hx27 (show x25 < 4294967296 by omega) (show x26 < 4294967296 by omega) lx27) rfl fun ac hs => ?_)
        exact hs
      · intro L ac w hJ
        have hs := hJ
        refine wpO_plain rfl (op_move hs (some 5) rfl rfl rfl rfl fun ac hs => ?_)
        exact hs
      · intro L ac w hJ
        have hs := hJ
        refine wpO_plain rfl (op_call (F := 86) hs (some 6) (v := .int .u32 ((x28 : Nat) : Int)) rfl rfl rfl rfl (Try.call86 _) (rot_c ((rnds (wv l) h i) 0) 22 x28 (show (rnds (wv l) h i) 0 < 4294967296 by omega) (by decide) (by decide) hx28) rfl fun ac w hs => ?_)
        exact hs
      · intro L ac w hJ
        have hs := hJ
        refine wpO_plain rfl (op_bin hs (some 7) (v := .int .u32 ((x29 : Nat) : Int)) rfl rfl rfl rfl (fun _ => rfl) (bin_xorN (x := x27) (y := x28) (z := x29) hx29 (show x27 < 4294967296 by omega) (show x28 < 4294967296 by omega) lx29) rfl fun ac hs => ?_)
        exact hs
      · intro L ac w hJ
        have hs := hJ
        refine wpO_plain rfl (op_move hs (some 8) rfl rfl rfl rfl fun ac hs => ?_)
        exact hs
      · intro L ac w hJ
        have hs := hJ
        refine wpO_plain rfl (op_idxA hs (some 9) (j := 1) rfl rfl rfl rfl Try.underlying101 Try.sizeOf99 (by decide) (off := 1) rfl rfl fun ac hs => ?_)
        exact hs
      · intro L ac w hJ
        have hs := hJ
        refine wpO_plain rfl (op_load hs (some 10) 3 (v := .int .u32 (((rnds (wv l) h i) 1 : Nat) : Int)) rfl rfl rfl rfl Try.isAgg99 Try.sizeOf99 (tab_get (j := 1) (by decide)) rfl fun ac hs => ?_)
        exact hs
      · intro L ac w hJ
        have hs := hJ
        refine wpO_plain rfl (op_bin hs (some 11) (v := .int .u32 ((x31 : Nat) : Int)) rfl rfl rfl rfl (fun _ => rfl) (bin_andN (x := (rnds (wv l) h i) 0) (y := (rnds (wv l) h i) 1) (z := x31) hx31 (show (rnds (wv l) h i) 0 < 4294967296 by omega) (show (rnds (wv l) h i) 1 < 4294967296 by omega) lx31) rfl fun ac hs => ?_)
        exact hs
      · intro L ac w hJ
        have hs := hJ
        refine wpO_plain rfl (op_move hs (some 12) rfl rfl rfl rfl fun ac hs => ?_)
        exact hs
      · intro L ac w hJ
        have hs := hJ
        refine wpO_plain rfl (op_idxA hs (some 13) (j := 2) rfl rfl rfl rfl Try.underlying101 Try.sizeOf99 (by decide) (off := 2) rfl rfl fun ac hs => ?_)
        exact hs
      · intro L ac w hJ
        have hs := hJ
        refine wpO_plain rfl (op_load hs (some 14) 3 (v := .int .u32 (((rnds (wv l) h i) 2 : Nat) : Int)) rfl rfl rfl rfl Try.isAgg99 Try.sizeOf99 (tab_get (j := 2) (by decide)) rfl fun ac hs => ?_)
        exact hs
      · intro L ac w hJ
        have hs := hJ
        refine wpO_plain rfl (op_bin hs (some 15) (v := .int .u32 ((x33 : Nat) : Int)) rfl rfl rfl rfl (fun _ => rfl) (bin_andN (x := (rnds (wv l) h i) 0) (y := (rnds (wv l) h i) 2) (z := x33) hx33 (show (rnds (wv l) h i) 0 < 4294967296 by omega) (show (rnds (wv l) h i) 2 < 4294967296 by omega) lx33) rfl fun ac hs => ?_)
        exact hs
      · intro L ac w hJ
        have hs := hJ
        refine wpO_plain rfl (op_bin hs (some 16) (v := .int .u32 ((x34 : Nat) : Int)) rfl rfl rfl rfl (fun _ => rfl) (bin_xorN (x := x31) (y := x33) (z := x34) hx34 (show x31 < 4294967296 by omega) (show x33 < 4294967296 by omega) lx34) rfl fun ac hs => ?_)
        exact hs
      · intro L ac w hJ
        have hs := hJ
        refine wpO_plain rfl (op_idxA hs (some 17) (j := 1) rfl rfl rfl rfl Try.underlying101 Try.sizeOf99 (by decide) (off := 1) rfl rfl fun ac hs => ?_)
        exact hs
      · intro L ac w hJ
        have hs := hJ
        refine wpO_plain rfl (op_load hs (some 18) 3 (v := .int .u32 (((rnds (wv l) h i) 1 : Nat) : Int)) rfl rfl rfl rfl Try.isAgg99 Try.sizeOf99 (tab_get (j := 1) (by decide)) rfl fun ac hs => ?_)
        exact hs
      · intro L ac w hJ
        have hs := hJ
        refine wpO_plain rfl (op_idxA hs (some 19) (j := 2) rfl rfl rfl rfl Try.underlying101 Try.sizeOf99 (by decide) (off := 2) rfl rfl fun ac hs => ?_)
        exact hs
      · intro L ac w hJ
        have hs := hJ
        refine wpO_plain rfl (op_load hs (some 20) 3 (v := .int .u32 (((rnds (wv l) h i) 2 : Nat) : Int)) rfl rfl rfl rfl Try.isAgg99 Try.sizeOf99 (tab_get (j := 2) (by decide)) rfl fun ac hs => ?_)
        exact hs
      · intro L ac w hJ
        have hs := hJ
        refine wpO_plain rfl (op_bin hs (some 21) (v := .int .u32 ((x37 : Nat) : Int)) rfl rfl rfl rfl (fun _ => rfl) (bin_andN (x := (rnds (wv l) h i) 1) (y := (rnds (wv l) h i) 2) (z := x37) hx37 (show (rnds (wv l) h i) 1 < 4294967296 by omega) (show (rnds (wv l) h i) 2 < 4294967296 by omega) lx37) rfl fun ac hs => ?_)
        exact hs
      · intro L ac w hJ
        have hs := hJ
        refine wpO_plain rfl (op_bin hs (some 22) (v := .int .u32 ((x38 : Nat) : Int)) rfl rfl rfl rfl (fun _ => rfl) (bin_xorN (x := x34) (y := x37) (z := x38) hx38 (show x34 < 4294967296 by omega) (show x37 < 4294967296 by omega) lx38) rfl fun ac hs => ?_)
        exact hs
      · intro L ac w hJ
        have hs := hJ
        refine wpO_plain rfl (op_bin hs (some 23) (v := .int .u32 ((x39 : Nat) : Int)) rfl rfl rfl rfl (fun _ => rfl) (bin_addM (x := x29) (y := x38) (z := x39) rfl hx39) rfl fun ac hs => ?_)
        exact hs
      · intro L ac w hJ
        have hs := hJ
        refine wpO_plain rfl (op_assign hs (some 24) rfl rfl rfl rfl fun ac hs => ?_)
        exact hs
    intro ac w hJ
    replace hs : St 116 ⟨w0, [], [(true, .cel (.slice ad l.length c) l.length (bcs l))], Z, X⟩ [(56, true, .int .u32 (((rnds (wv l) h i) 0 : Nat) : Int)), (57, true, .int .u32 ((x25 : Nat) : Int)), (58, true, .int .u32 (((rnds (wv l) h i) 0 : Nat) : Int)), (59, true, .int .u32 ((x26 : Nat) : Int)), (60, true, .int .u32 ((x27 : Nat) : Int)), (61, true, .int .u32 (((rnds (wv l) h i) 0 : Nat) : Int)), (62, true, .int .u32 ((x28 : Nat) : Int)), (63, true, .int .u32 ((x29 : Nat) : Int)), (64, true, .int .u32 (((rnds (wv l) h i) 0 : Nat) : Int)), (65, true, .pointer (some ⟨g3, 1, none⟩)), (66, true, .int .u32 (((rnds (wv l) h i) 1 : Nat) : Int)), (67, true, .int .u32 ((x31 : Nat) : Int)), (68, true, .int .u32 (((rnds (wv l) h i) 0 : Nat) : Int)), (69, true, .pointer (some ⟨g3, 2, none⟩)), (70, true, .int .u32 (((rnds (wv l) h i) 2 : Nat) : Int)), (71, true, .int .u32 ((x33 : Nat) : Int)), (72, true, .int .u32 ((x34 : Nat) : Int)), (73, true, .pointer (some ⟨g3, 1, none⟩)), (74, true, .int .u32 (((rnds (wv l) h i) 1 : Nat) : Int)), (75, true, .pointer (some ⟨g3, 2, none⟩)), (76, true, .int .u32 (((rnds (wv l) h i) 2 : Nat) : Int)), (77, true, .int .u32 ((x37 : Nat) : Int)), (78, true, .int .u32 ((x38 : Nat) : Int)), (79, true, .int .u32 ((x39 : Nat) : Int)), (11, true, .int .u32 ((x39 : Nat) : Int)), (0, true, .pointer (some ⟨gs, 0, none⟩)), (4, true, .pointer (some ⟨g1, 0, none⟩)), (5, true, .pointer (some ⟨g2, 0, none⟩)), (6, true, .pointer (some ⟨g3, 0, none⟩)), (19, true, .int .i64 ((i : Nat) : Int)), (9, true, .int .u32 ((x23 : Nat) : Int)), (10, true, .int .u32 (((rnds (wv l) h i) 0 : Nat) : Int))] [(true, gs, T, (tab .u32 8 h ++ sp)), (true, g1, 109, (tab .u32 64 (wv l))), (true, g2, 109, (tab .u32 64 KK)), (true, g3, 101, (tab .u32 8 (rnds (wv l) h i)))] ac w := hJ
    refine then_n ?_
    refine wp_region_lit ?_
    refine lstep (wpO_plain rfl (op_move hs none rfl rfl rfl rfl fun ac hs => ?_))
    refine lstep (wpO_plain rfl (op_move hs none rfl rfl rfl rfl fun ac hs => ?_))
    obtain ⟨x40, hx40, lx40⟩ : ∃ z0, (x23 + x39) % 4294967296 = z0 ∧ z0 < 4294967296 := ⟨_, rfl, m32 _⟩
    refine lstep (wpO_plain rfl (op_bin hs none (v := .int .u32 ((x40 : Nat) : Int)) rfl rfl rfl rfl (fun _ => rfl) (bin_addM (x := x23) (y := x39) (z := x40) rfl hx40) rfl fun ac hs => ?_))
    refine lstep (wpO_plain rfl (op_idxA hs none (j := 0) rfl rfl rfl rfl Try.underlying101 Try.sizeOf99 (by decide) (off := 0) rfl rfl fun ac hs => ?_))
    have l41 := rnds_lt (w := wv l) (h := h) hh i 0
    refine lstep (wpO_plain rfl (op_load hs none 3 (v := .int .u32 (((rnds (wv l) h i) 0 : Nat) : Int)) rfl rfl rfl rfl Try.isAgg99 Try.sizeOf99 (tab_get (j := 0) (by decide)) rfl fun ac hs => ?_))
    refine lstep (wpO_plain rfl (op_idxA hs none (j := 1) rfl rfl rfl rfl Try.underlying101 Try.sizeOf99 (by decide) (off := 1) rfl rfl fun ac hs => ?_))
    have l42 := rnds_lt (w := wv l) (h := h) hh i 1
    refine lstep (wpO_plain rfl (op_load hs none 3 (v := .int .u32 (((rnds (wv l) h i) 1 : Nat) : Int)) rfl rfl rfl rfl Try.isAgg99 Try.sizeOf99 (tab_get (j := 1) (by decide)) rfl fun ac hs => ?_))
    refine lstep (wpO_plain rfl (op_idxA hs none (j := 2) rfl rfl rfl rfl Try.underlying101 Try.sizeOf99 (by decide) (off := 2) rfl rfl fun ac hs => ?_))
    have l43 := rnds_lt (w := wv l) (h := h) hh i 2
    refine lstep (wpO_plain rfl (op_load hs none 3 (v := .int .u32 (((rnds (wv l) h i) 2 : Nat) : Int)) rfl rfl rfl rfl Try.isAgg99 Try.sizeOf99 (tab_get (j := 2) (by decide)) rfl fun ac hs => ?_))
    refine lstep (wpO_plain rfl (op_idxA hs none (j := 3) rfl rfl rfl rfl Try.underlying101 Try.sizeOf99 (by decide) (off := 3) rfl rfl fun ac hs => ?_))
    have l44 := rnds_lt (w := wv l) (h := h) hh i 3
    refine lstep (wpO_plain rfl (op_load hs none 3 (v := .int .u32 (((rnds (wv l) h i) 3 : Nat) : Int)) rfl rfl rfl rfl Try.isAgg99 Try.sizeOf99 (tab_get (j := 3) (by decide)) rfl fun ac hs => ?_))
    refine lstep (wpO_plain rfl (op_move hs none rfl rfl rfl rfl fun ac hs => ?_))
    obtain ⟨x45, hx45, lx45⟩ : ∃ z0, ((rnds (wv l) h i) 3 + x23) % 4294967296 = z0 ∧ z0 < 4294967296 := ⟨_, rfl, m32 _⟩
    refine lstep (wpO_plain rfl (op_bin hs none (v := .int .u32 ((x45 : Nat) : Int)) rfl rfl rfl rfl (fun _ => rfl) (bin_addM (x := (rnds (wv l) h i) 3) (y := x23) (z := x45) rfl hx45) rfl fun ac hs => ?_))
    refine lstep (wpO_plain rfl (op_idxA hs none (j := 4) rfl rfl rfl rfl Try.underlying101 Try.sizeOf99 (by decide) (off := 4) rfl rfl fun ac hs => ?_))
    have l46 := rnds_lt (w := wv l) (h := h) hh i 4
    refine lstep (wpO_plain rfl (op_load hs none 3 (v := .int .u32 (((rnds (wv l) h i) 4 : Nat) : Int)) rfl rfl rfl rfl Try.isAgg99 Try.sizeOf99 (tab_get (j := 4) (by decide)) rfl fun ac hs => ?_))
    refine lstep (wpO_plain rfl (op_idxA hs none (j := 5) rfl rfl rfl rfl Try.underlying101 Try.sizeOf99 (by decide) (off := 5) rfl rfl fun ac hs => ?_))
    have l47 := rnds_lt (w := wv l) (h := h) hh i 5
    refine lstep (wpO_plain rfl (op_load hs none 3 (v := .int .u32 (((rnds (wv l) h i) 5 : Nat) : Int)) rfl rfl rfl rfl Try.isAgg99 Try.sizeOf99 (tab_get (j := 5) (by decide)) rfl fun ac hs => ?_))
    refine lstep (wpO_plain rfl (op_idxA hs none (j := 6) rfl rfl rfl rfl Try.underlying101 Try.sizeOf99 (by decide) (off := 6) rfl rfl fun ac hs => ?_))
    have l48 := rnds_lt (w := wv l) (h := h) hh i 6
    refine lstep (wpO_plain rfl (op_load hs none 3 (v := .int .u32 (((rnds (wv l) h i) 6 : Nat) : Int)) rfl rfl rfl rfl Try.isAgg99 Try.sizeOf99 (tab_get (j := 6) (by decide)) rfl fun ac hs => ?_))
    refine lstep (wpO_plain rfl (op_build hs none (qs := [(0, .int .u32 ((x40 : Nat) : Int)), (1, .int .u32 (((rnds (wv l) h i) 0 : Nat) : Int)), (2, .int .u32 (((rnds (wv l) h i) 1 : Nat) : Int)), (3, .int .u32 (((rnds (wv l) h i) 2 : Nat) : Int)), (4, .int .u32 ((x45 : Nat) : Int)), (5, .int .u32 (((rnds (wv l) h i) 4 : Nat) : Int)), (6, .int .u32 (((rnds (wv l) h i) 5 : Nat) : Int)), (7, .int .u32 (((rnds (wv l) h i) 6 : Nat) : Int))]) (v := At .u32 8 (ft8 x40 ((rnds (wv l) h i) 0) ((rnds (wv l) h i) 1) ((rnds (wv l) h i) 2) x45 ((rnds (wv l) h i) 4) ((rnds (wv l) h i) 5) ((rnds (wv l) h i) 6))) rfl rfl rfl rfl (fun _ => by kernel_rfl) rfl fun ac hs => ?_))
    refine lstep (wpO_plain rfl (op_store hs 3 (vs := (tab .u32 8 (ft8 x40 ((rnds (wv l) h i) 0) ((rnds (wv l) h i) 1) ((rnds (wv l) h i) 2) x45 ((rnds (wv l) h i) 4) ((rnds (wv l) h i) 5) ((rnds (wv l) h i) 6)))) rfl rfl rfl rfl rfl Try.sizeOf101 (by kernel_rfl) tab_length' (tab_one _ _ _) tab_leA wr_tab fun w hs => ?_))
    refine wpList_nil ?_
    refine blk_n ?_
    refine then_n ?_
    replace hs : St 116 ⟨w0, [], [(true, .cel (.slice ad l.length c) l.length (bcs l))], Z, X⟩ [(0, true, .pointer (some ⟨gs, 0, none⟩)), (4, true, .pointer (some ⟨g1, 0, none⟩)), (5, true, .pointer (some ⟨g2, 0, none⟩)), (6, true, .pointer (some ⟨g3, 0, none⟩)), (19, true, .int .i64 ((i : Nat) : Int))] [(true, gs, T, (tab .u32 8 h ++ sp)), (true, g1, 109, (tab .u32 64 (wv l))), (true, g2, 109, (tab .u32 64 KK)), (true, g3, 101, (tab .u32 8 (ft8 x40 ((rnds (wv l) h i) 0) ((rnds (wv l) h i) 1) ((rnds (wv l) h i) 2) x45 ((rnds (wv l) h i) 4) ((rnds (wv l) h i) 5) ((rnds (wv l) h i) 6))))] ac _ := hs.re ⟨rfl, rfl, rfl, rfl, rfl, trivial⟩
    refine wp_region_lit ?_
    refine lstep (wpO_plain rfl (op_bin hs none (v := .int .i64 ((i + 1 : Nat) : Int)) rfl rfl rfl rfl (fun _ => rfl) (bin_addN (x := i) (y := 1) (z := i + 1) rfl (show i + 1 < 9223372036854775808 by omega)) rfl fun ac hs => ?_))
    refine lstep (wpO_plain rfl (op_move hs none rfl rfl rfl rfl fun ac hs => ?_))
    refine wpList_nil ?_
    refine then_n ?_
    replace hs := hs.setb 3 (cs' := (tab .u32 8 (rnds (wv l) h (i + 1)))) rfl (congrArg (tab .u32 8) (show ft8 x40 ((rnds (wv l) h i) 0) ((rnds (wv l) h i) 1) ((rnds (wv l) h i) 2) x45 ((rnds (wv l) h i) 4) ((rnds (wv l) h i) 5) ((rnds (wv l) h i) 6) = rnd (KK i) (wv l i) (rnds (wv l) h i) by simp only [rnd, t1v, t2v, hx7, hx8, hx9, hx10, hx11, hx12, hx14, hx15, hx17, hx18, hx19, hx21, hx23, hx25, hx26, hx27, hx28, hx29, hx31, hx33, hx34, hx37, hx38, hx39, hx40, hx45]))
    exact ⟨_, ⟨(i + 1), rfl, (by omega), (hs.re (fs' := [(0, true, .pointer (some ⟨gs, 0, none⟩)), (4, true, .pointer (some ⟨g1, 0, none⟩)), (5, true, .pointer (some ⟨g2, 0, none⟩)), (6, true, .pointer (some ⟨g3, 0, none⟩)), (19, true, .int .i64 (((i + 1) : Nat) : Int))]) ⟨rfl, rfl, rfl, rfl, rfl, trivial⟩)⟩, (by omega)⟩
  · skip
    have hp49 := of_decide_eq_false hc
    obtain rfl : i = 64 := by have := of_decide_eq_false hc; omega
    replace hs := hs.setb 3 (cs' := (tab .u32 8 (rnds (wv l) h 64))) rfl rfl
    refine wp_exit ?_
    refine then_e ?_
    refine then_e ?_
    refine blk_e ?_
    refine then_n ?_
    refine wp_seq ?_
    refine wp_region_lit ?_
    refine lstep (wpO_plain rfl (op_move hs none rfl rfl rfl rfl fun ac hs => ?_))
    refine wpList_nil ?_
    refine then_n ?_
    refine wp_block ?_
    replace hs := hs.setb 0 (cs' := (tab .u32 8 (addT h (rnds (wv l) h 64) 0) ++ sp)) rfl (tabs_ext fun j hj => addT_zero _ _ j)
    refine wp_loop_m (fun μ ac w => ∃ (i : Nat), (8 - i) = μ ∧ (i ≤ 8) ∧ St 116 ⟨w0, [], [(true, .cel (.slice ad l.length c) l.length (bcs l))], Z, X⟩ [(0, true, .pointer (some ⟨gs, 0, none⟩)), (6, true, .pointer (some ⟨g3, 0, none⟩)), (101, true, .int .i64 ((i : Nat) : Int))] [(true, gs, T, (tab .u32 8 (addT h (rnds (wv l) h 64) i) ++ sp)), (true, g1, 109, (tab .u32 64 (wv l))), (true, g2, 109, (tab .u32 64 KK)), (true, g3, 101, (tab .u32 8 (rnds (wv l) h 64)))] ac w) ?_ ?_
    · exact ⟨_, 0, rfl, (by omega), (hs.re (fs' := [(0, true, .pointer (some ⟨gs, 0, none⟩)), (6, true, .pointer (some ⟨g3, 0, none⟩)), (101, true, .int .i64 ((0 : Nat) : Int))]) ⟨rfl, rfl, rfl, trivial⟩)⟩
    intro μ ac w ⟨i, hμ, hi, hs⟩
    refine wp_seq ?_
    refine wp_region_lit ?_
    refine lstep (wpO_plain rfl (op_bin hs none (v := .bool (decide (i < 8))) rfl rfl rfl rfl (fun _ => rfl) (bin_lssN (x := i) (y := 8)) rfl fun ac hs => ?_))
    refine wpList_nil ?_
    refine then_n ?_
    refine wp_seq ?_
    refine wp_cond_split (hs.ev rfl) (fun hc => ?_) (fun hc => ?_)
    · skip
      have hp50 := of_decide_eq_true hc
      have hi8 := of_decide_eq_true hc
      refine wp_skip ?_
      refine then_n ?_
      refine wp_seq ?_
      refine wp_block ?_
      refine wp_seq ?_
      refine wp_region_lit ?_
      refine lstep (wpO_plain rfl (op_move hs none rfl rfl rfl rfl fun ac hs => ?_))
      refine lstep (wpO_plain rfl (op_assign hs none rfl rfl rfl rfl fun ac hs => ?_))
      refine wpList_nil ?_
      refine then_n ?_
      replace hs : St 116 ⟨w0, [], [(true, .cel (.slice ad l.length c) l.length (bcs l))], Z, X⟩ [(0, true, .pointer (some ⟨gs, 0, none⟩)), (6, true, .pointer (some ⟨g3, 0, none⟩)), (101, true, .int .i64 ((i : Nat) : Int)), (12, true, .int .i64 ((i : Nat) : Int))] [(true, gs, T, (tab .u32 8 (addT h (rnds (wv l) h 64) i) ++ sp)), (true, g1, 109, (tab .u32 64 (wv l))), (true, g2, 109, (tab .u32 64 KK)), (true, g3, 101, (tab .u32 8 (rnds (wv l) h 64)))] ac _ := hs.re ⟨rfl, rfl, rfl, rfl, trivial⟩
      have l51 := addT_lt (v := rnds (wv l) h 64) hh i i
      have l52 := rnds_lt (w := wv l) (h := h) hh 64 i
      obtain ⟨x53, hx53, lx53⟩ : ∃ z0, ((addT h (rnds (wv l) h 64) i) i + ((rnds (wv l) h 64) i)) % 4294967296 = z0 ∧ z0 < 4294967296 := ⟨_, rfl, m32 _⟩
      refine region_inv [([], [2, 3, 4, 8, 9, 10, 11]), ([], [3, 4, 8, 10, 11]), ([0], [3, 4, 8, 10, 11]), ([0, 1, 2], [4, 8, 10, 11]), ([0, 1, 2, 3], [8, 10, 11]), ([], [6, 7, 8, 10, 11]), ([5], [7, 8, 10, 11]), ([5, 6], [8, 10, 11]), ([0, 1, 2, 3, 4, 5, 6, 7], [10, 11]), ([0], [10, 11]), ([0, 1, 2, 3, 4, 5, 6, 7, 8, 9], [11]), ([0, 1, 2, 3, 4, 5, 6, 7, 8, 9, 10], [])] (fun L ac w => St 116 ⟨w0, [], [(true, .cel (.slice ad l.length c) l.length (bcs l))], Z, X⟩ [(104, L 0, .pointer (some ⟨gs, 0, none⟩)), (105, L 1, .int .i64 ((i : Nat) : Int)), (106, L 2, .pointer (some ⟨gs, 0, none⟩)), (107, L 3, .pointer (some ⟨gs, i, none⟩)), (108, L 4, .int .u32 (((addT h (rnds (wv l) h 64) i) i : Nat) : Int)), (109, L 5, .int .i64 ((i : Nat) : Int)), (110, L 6, .pointer (some ⟨g3, i, none⟩)), (111, L 7, .int .u32 (((rnds (wv l) h 64) i : Nat) : Int)), (112, L 8, .int .u32 ((x53 : Nat) : Int)), (113, L 9, .pointer (some ⟨gs, 0, none⟩)), (114, L 10, .pointer (some ⟨gs, i, none⟩)), (0, true, .pointer (some ⟨gs, 0, none⟩)), (6, true, .pointer (some ⟨g3, 0, none⟩)), (101, true, .int .i64 ((i : Nat) : Int)), (12, true, .int .i64 ((i : Nat) : Int))] [(true, gs, T, (cond (L 11) (tab .u32 8 (upn (addT h (rnds (wv l) h 64) i) i x53) ++ sp) (tab .u32 8 (addT h (rnds (wv l) h 64) i) ++ sp))), (true, g1, 109, (tab .u32 64 (wv l))), (true, g2, 109, (tab .u32 64 KK)), (true, g3, 101, (tab .u32 8 (rnds (wv l) h 64)))] ac w) (by kernel_rfl) (by kernel_rfl) ?_ ?_ ?_
      · exact hs.drew.skip.skip.skip.skip.skip.skip.skip.skip.skip.skip.skip
      · refine ⟨?_, ?_, ?_, ?_, ?_, ?_, ?_, ?_, ?_, ?_, ?_, ?_, trivial⟩
        · intro L ac w hJ
          have hs := hJ
          refine wpO_plain rfl (op_move hs (some 0) rfl rfl rfl rfl fun ac hs => ?_)
          exact hs
        · intro L ac w hJ
          have hs := hJ
          refine wpO_plain rfl (op_move hs (some 1) rfl rfl rfl rfl fun ac hs => ?_)
          exact hs
        · intro L ac w hJ
          have hs := hJ
          refine wpO_plain rfl (op_nilCheck hs (some 2) rfl rfl rfl rfl fun ac hs => ?_)
          exact hs
        · intro L ac w hJ
          have hs := hJ
          refine wpO_plain rfl (op_idxA hs (some 3) (j := i) rfl rfl rfl rfl Try.underlying101 Try.sizeOf99 (show i < 8 by omega) (off := i) (by omega) rfl fun ac hs => ?_)
          exact hs
        · intro L ac w hJ
          have hs := hJ
          refine wpO_plain rfl (op_load hs (some 4) 0 (v := .int .u32 (((addT h (rnds (wv l) h 64) i) i : Nat) : Int)) rfl rfl rfl rfl Try.isAgg99 Try.sizeOf99 (tabs_get (j := i) (show i < 8 by omega)) rfl fun ac hs => ?_)
          exact hs
        · intro L ac w hJ
          have hs := hJ
          refine wpO_plain rfl (op_move hs (some 5) rfl rfl rfl rfl fun ac hs => ?_)
          exact hs
        · intro L ac w hJ
          have hs := hJ
          refine wpO_plain rfl (op_idxA hs (some 6) (j := i) rfl rfl rfl rfl Try.underlying101 Try.sizeOf99 (show i < 8 by omega) (off := i) (by omega) rfl fun ac hs => ?_)
          exact hs
        · intro L ac w hJ
          have hs := hJ
          refine wpO_plain rfl (op_load hs (some 7) 3 (v := .int .u32 (((rnds (wv l) h 64) i : Nat) : Int)) rfl rfl rfl rfl Try.isAgg99 Try.sizeOf99 (tab_get (j := i) (show i < 8 by omega)) rfl fun ac hs => ?_)
          exact hs
        · intro L ac w hJ
          have hs := hJ
          refine wpO_plain rfl (op_bin hs (some 8) (v := .int .u32 ((x53 : Nat) : Int)) rfl rfl rfl rfl (fun _ => rfl) (bin_addM (x := (addT h (rnds (wv l) h 64) i) i) (y := (rnds (wv l) h 64) i) (z := x53) rfl hx53) rfl fun ac hs => ?_)
          exact hs
        · intro L ac w hJ
          have hs := hJ
          refine wpO_plain rfl (op_nilCheck hs (some 9) rfl rfl rfl rfl fun ac hs => ?_)
          exact hs
        · intro L ac w hJ
          have hs := hJ
          refine wpO_plain rfl (op_idxA hs (some 10) (j := i) rfl rfl rfl rfl Try.underlying101 Try.sizeOf99 (show i < 8 by omega) (off := i) (by omega) rfl fun ac hs => ?_)
          exact hs
        · intro L ac w hJ
          have hs := hJ
          refine wpO_plain rfl (op_store hs 0 (vs := [.int .u32 ((x53 : Nat) : Int)]) rfl rfl rfl rfl rfl Try.sizeOf99 rfl rfl rfl (tabs_le (j := i) (show i < 8 by omega)) (tabs_set (j := i) (show i < 8 by omega)) fun w hs => ?_)
          exact hs
      intro ac w hJ
      replace hs : St 116 ⟨w0, [], [(true, .cel (.slice ad l.length c) l.length (bcs l))], Z, X⟩ [(104, true, .pointer (some ⟨gs, 0, none⟩)), (105, true, .int .i64 ((i : Nat) : Int)), (106, true, .pointer (some ⟨gs, 0, none⟩)), (107, true, .pointer (some ⟨gs, i, none⟩)), (108, true, .int .u32 (((addT h (rnds (wv l) h 64) i) i : Nat) : Int)), (109, true, .int .i64 ((i : Nat) : Int)), (110, true, .pointer (some ⟨g3, i, none⟩)), (111, true, .int .u32 (((rnds (wv l) h 64) i : Nat) : Int)), (112, true, .int .u32 ((x53 : Nat) : Int)), (113, true, .pointer (some ⟨gs, 0, none⟩)), (114, true, .pointer (some ⟨gs, i, none⟩)), (0, true, .pointer (some ⟨gs, 0, none⟩)), (6, true, .pointer (some ⟨g3, 0, none⟩)), (101, true, .int .i64 ((i : Nat) : Int)), (12, true, .int .i64 ((i : Nat) : Int))] [(true, gs, T, (tab .u32 8 (upn (addT h (rnds (wv l) h 64) i) i x53) ++ sp)), (true, g1, 109, (tab .u32 64 (wv l))), (true, g2, 109, (tab .u32 64 KK)), (true, g3, 101, (tab .u32 8 (rnds (wv l) h 64)))] ac w := hJ
      refine blk_n ?_
      refine then_n ?_
      refine wp_region_lit ?_
      refine lstep (wpO_plain rfl (op_bin hs none (v := .int .i64 ((i + 1 : Nat) : Int)) rfl rfl rfl rfl (fun _ => rfl) (bin_addN (x := i) (y := 1) (z := i + 1) rfl (show i + 1 < 9223372036854775808 by omega)) rfl fun ac hs => ?_))
      refine lstep (wpO_plain rfl (op_move hs none rfl rfl rfl rfl fun ac hs => ?_))
      refine wpList_nil ?_
      refine then_n ?_
      replace hs := hs.setb 0 (cs' := (tab .u32 8 (addT h (rnds (wv l) h 64) (i + 1)) ++ sp)) rfl (tabs_ext fun j hj => addT_step (by rw [← hx53, addT_at]) j)
      exact ⟨_, ⟨(i + 1), rfl, (by omega), (hs.re (fs' := [(0, true, .pointer (some ⟨gs, 0, none⟩)), (6, true, .pointer (some ⟨g3, 0, none⟩)), (101, true, .int .i64 (((i + 1) : Nat) : Int))]) ⟨rfl, rfl, rfl, trivial⟩)⟩, (by omega)⟩
    · skip
      have hp54 := of_decide_eq_false hc
      obtain rfl : i = 8 := by have := of_decide_eq_false hc; omega
      replace hs := hs.setb 0 (cs' := (tab .u32 8 (blk h l) ++ sp)) rfl (tabs_ext fun j hj => addT_end hj)
      refine wp_exit ?_
      refine then_e ?_
      refine then_e ?_
      refine blk_e ?_
      exact bodyPost_end (res0 rfl) hs.defers ⟨(), rfl, ((hs.selS [0] rfl (by decide)).selB [0] rfl (by decide)).mem⟩
theorem new_c  (w0 : World) (Z X : Nat → Prop) (hm : Mem ⟨w0, [], [], Z, X⟩ [] w0) : Calls Try.prog 68 #[] w0 fun e w' => PostX w0 Z X (ρ := Nat) (fun r => .pointer (some ⟨r, 0, none⟩)) (fun r => [(true, r, 104, tab .u32 8 HH0 ++ ([.slice none 0 0, .int .u64 ((0 : Nat) : Int)] : List Value))]) (fun r => []) e w' := by
  refine enterX (n := 4) (args := []) Try.func68 rfl rfl (Nat.le_of_ble_eq_true rfl) hm fun ac hs => ?_
  refine wp_seq ?_
  refine wp_region_lit ?_
  refine lstep (wpO_plain rfl (op_assign hs none rfl rfl rfl rfl fun ac hs => ?_))
  refine wpList_nil ?_
  refine then_n ?_
  refine wp_seq ?_
  refine wp_region_lit ?_
  refine lstep (wpO_plain rfl (op_call (F := 79) hs none (v := At .u32 8 HH0) rfl rfl rfl rfl (Try.call79 _) firsts_c rfl fun ac w hs => ?_))
  refine lstep (wpO_plain rfl (op_build hs none (qs := [(0, At .u32 8 HH0)]) (v := .agg (tab .u32 8 HH0 ++ ([.slice none 0 0, .int .u64 0] : List Value)).toArray) rfl rfl rfl rfl (fun _ => by kernel_rfl) rfl fun ac hs => ?_))
  refine lstep (wpO_plain rfl (op_box hs none none (cs := (tab .u32 8 HH0 ++ ([.slice none 0 0, .int .u64 0] : List Value))) rfl rfl rfl rfl rfl rfl fun g1 ac w hs => ?_))
  refine lstep (wpO_plain rfl (op_assign hs none rfl rfl rfl rfl fun ac hs => ?_))
  refine wpList_nil ?_
  refine then_n ?_
  refine wp_ret ?_
  exact bodyPost_ret (res1 rfl (rv_t hs rfl)) hs.defers ⟨g1, rfl, ((hs.selS [] rfl (by decide)).selB [0] rfl (by decide)).mem⟩
end Go.Proofs.Ytikkhkjndbicgaa

/- SHA-256: the program's, the document's. -/
namespace Go.Proofs.Ytikkhkjndbicgaa
open Go.RowKit
set_option maxRecDepth 10000
set_option maxHeartbeats 1000000
theorem rst0 : 0 = (rst []).length ∧ bcs [] = bcs (rst []) := ⟨by rw [rst_end (by decide)]; rfl, by rw [rst_end (by decide)]⟩
theorem hash0 : tab .u32 8 HH0 ++ ([.slice none 0 0, .int .u64 ((0 : Nat) : Int)] : List Value) = tab .u32 8 (blks HH0 []) ++ ([.slice none (rst []).length 0, .int .u64 ((([] : List UInt8).length : Nat) : Int)] : List Value) := by
  rw [blks_end (by decide), rst_end (by decide)]; rfl
theorem write_c (gh : Nat) (ar : Option Addr) (cr : Nat) (m : List UInt8) (ab : Option Addr) (cb : Nat) (b : List UInt8) (hmb : m.length + b.length ≤ 900000) (w0 : World) (Z X : Nat → Prop) (hm : Mem ⟨w0, [], [(true, .cel (.slice ar ((rst m).length) cr) ((rst m).length) (bcs (rst m))), (true, .cel (.slice ab b.length cb) b.length (bcs b))], Z, X⟩ [(true, gh, 104, (tab .u32 8 (blks HH0 m) ++ ([.slice ar ((rst m).length) cr, .int .u64 ((m.length : Nat) : Int)] : List Value)))] w0) : Calls Try.prog 69 #[.pointer (some ⟨gh, 0, none⟩), .slice ab b.length cb] w0 fun e w' => PostX w0 Z X (ρ := Option Addr × Nat) (fun r => .tuple #[]) (fun r => [(true, gh, 104, tab .u32 8 (blks HH0 (m ++ b)) ++ ([.slice r.1 (rst (m ++ b)).length r.2, .int .u64 (((m ++ b).length : Nat) : Int)] : List Value))]) (fun r => [(true, .cel (.slice r.1 (rst (m ++ b)).length r.2) (rst (m ++ b)).length (bcs (rst (m ++ b)))), (true, .cel (.slice ab b.length cb) b.length (bcs b))]) e w' := by
  have hrl := rst_lt m
  refine enterX (n := 59) (args := [.pointer (some ⟨gh, 0, none⟩), .slice ab b.length cb]) Try.func69 rfl rfl (Nat.le_of_ble_eq_true rfl) hm fun ac hs => ?_
  refine wp_seq ?_
  refine wp_seq ?_
  refine wp_region_lit ?_
  refine lstep (wpO_plain rfl (op_move hs none rfl rfl rfl rfl fun ac hs => ?_))
  refine lstep (wpO_plain rfl (op_bin hs none (v := .bool false) rfl rfl rfl rfl (fun _ => rfl) (bin_eqlP0 Try.underlying90) rfl fun ac hs => ?_))
  refine wpList_nil ?_
  refine then_n ?_
  refine wp_cond_false (hs.ev rfl) ?_
  refine wp_skip ?_
  refine then_n ?_
  refine wp_seq ?_
  refine wp_region_lit ?_
  refine lstep (wpO_plain rfl (op_move hs none rfl rfl rfl rfl fun ac hs => ?_))
  refine lstep (wpO_plain rfl (op_nilCheck hs none rfl rfl rfl rfl fun ac hs => ?_))
  refine lstep (wpO_plain rfl (op_fieldA hs none rfl rfl rfl Try.underlying104 rfl Try.sizeOf86 (by decide) rfl fun ac hs => ?_))
  refine lstep (wpO_plain rfl (op_load hs none 0 (v := .int .u64 ((m.length : Nat) : Int)) rfl rfl rfl rfl Try.isAgg86 Try.sizeOf86 (tabs_tail (i := 1) rfl rfl) rfl fun ac hs => ?_))
  refine lstep (wpO_plain rfl (op_move hs none rfl rfl rfl rfl fun ac hs => ?_))
  refine lstep (wpO_plain rfl (op_blt hs none (v := .int .i64 ((b.length : Nat) : Int)) rfl rfl rfl (blt_len Try.underlying34) rfl fun ac hs => ?_))
  refine lstep (wpO_plain rfl (op_convert hs none (v := .int .u64 ((b.length : Nat) : Int)) rfl rfl rfl (conv_N Try.underlying3 Try.underlying86 (show b.length < 18446744073709551616 by omega)) rfl fun ac hs => ?_))
  refine lstep (wpO_plain rfl (op_bin hs none (v := .int .u64 ((m.length + b.length : Nat) : Int)) rfl rfl rfl rfl (fun _ => rfl) (bin_addN (x := m.length) (y := b.length) (z := m.length + b.length) rfl (show m.length + b.length < 18446744073709551616 by omega)) rfl fun ac hs => ?_))
  refine lstep (wpO_plain rfl (op_nilCheck hs none rfl rfl rfl rfl fun ac hs => ?_))
  refine lstep (wpO_plain rfl (op_fieldA hs none rfl rfl rfl Try.underlying104 rfl Try.sizeOf86 (by decide) rfl fun ac hs => ?_))
  refine lstep (wpO_plain rfl (op_store hs 0 (vs := [.int .u64 ((m.length + b.length : Nat) : Int)]) rfl rfl rfl rfl rfl Try.sizeOf86 rfl rfl rfl (tabs_tle (i := 1) rfl (Nat.le_of_ble_eq_true rfl)) (tabs_wr (i := 1) rfl rfl) fun w hs => ?_))
  refine wpList_nil ?_
  refine then_n ?_
  refine wp_seq ?_
  replace hs : St 59 ⟨w0, [], [(true, .cel (.slice ar ((rst m).length) cr) ((rst m).length) (bcs (rst m))), (true, .cel (.slice ab b.length cb) b.length (bcs b))], Z, X⟩ [(0, true, .pointer (some ⟨gh, 0, none⟩)), (1, true, .slice ab b.length cb)] [(true, gh, 104, (tab .u32 8 (blks HH0 m) ++ ([.slice ar ((rst m).length) cr, .int .u64 ((m.length + b.length : Nat) : Int)] : List Value)))] ac _ := hs.re ⟨rfl, rfl, trivial⟩
  refine region_inv [([], [18, 19, 20]), ([], [2, 3, 4, 15, 17, 18, 19, 20]), ([1], [3, 4, 15, 17, 18, 19, 20]), ([1, 2], [4, 15, 17, 18, 19, 20]), ([1, 2, 3], [15, 17, 18, 19, 20]), ([], [6, 7, 8, 9, 15, 17, 18, 19, 20]), ([5], [7, 8, 9, 15, 17, 18, 19, 20]), ([5, 6], [8, 9, 15, 17, 18, 19, 20]), ([5, 6, 7], [9, 15, 17, 18, 19, 20]), ([5, 6, 7, 8], [15, 17, 18, 19, 20]), ([], [11, 12, 13, 14, 15, 17, 18, 19, 20]), ([10], [12, 13, 14, 15, 17, 18, 19, 20]), ([10, 11], [13, 14, 15, 17, 18, 19, 20]), ([10, 11, 12], [14, 15, 17, 18, 19, 20]), ([10, 11, 12, 13], [15, 17, 18, 19, 20]), ([1, 2, 3, 4, 5, 6, 7, 8, 9, 10, 11, 12, 13, 14], [17, 18, 19, 20]), ([], [17, 18, 19, 20]), ([1, 2, 3, 4, 5, 6, 7, 8, 9, 10, 11, 12, 13, 14, 15, 16], [18, 19, 20]), ([0, 1, 2, 3, 4, 5, 6, 7, 8, 9, 10, 11, 12, 13, 14, 15, 16, 17], [19, 20]), ([0, 1, 2, 3, 4, 5, 6, 7, 8, 9, 10, 11, 12, 13, 14, 15, 16, 17, 18], [20]), ([0, 1, 2, 3, 4, 5, 6, 7, 8, 9, 10, 11, 12, 13, 14, 15, 16, 17, 18, 19], [])] (fun L ac w => ∃ (ad1 : Option Addr) (cp2 : Nat), St 59 ⟨w0, [], [(true, .cel (.slice ar ((rst m).length) cr) ((rst m).length) (bcs (rst m))), (true, .cel (.slice ab b.length cb) b.length (bcs b)), (L 15, .cel (.slice (vsa ar ((rst m).length) 1 0) ((rst m).length - 0) ((rst m).length - 0)) ((rst m).length - 0) (bcs (rst m))), (L 17, .cel (.slice ad1 ((rst m ++ b).length) cp2) ((rst m ++ b).length) (bcs (rst m ++ b)))], Z, X⟩ [(16, L 0, .pointer (some ⟨gh, 0, none⟩)), (17, L 1, .pointer (some ⟨gh, 0, none⟩)), (18, L 2, .pointer (some ⟨gh, 0, none⟩)), (19, L 3, .pointer (some ⟨gh, 8, none⟩)), (20, L 4, .slice ar ((rst m).length) cr), (21, L 5, .pointer (some ⟨gh, 0, none⟩)), (22, L 6, .pointer (some ⟨gh, 0, none⟩)), (23, L 7, .pointer (some ⟨gh, 8, none⟩)), (24, L 8, .slice ar ((rst m).length) cr), (25, L 9, .int .i64 (((rst m).length : Nat) : Int)), (26, L 10, .pointer (some ⟨gh, 0, none⟩)), (27, L 11, .pointer (some ⟨gh, 0, none⟩)), (28, L 12, .pointer (some ⟨gh, 8, none⟩)), (29, L 13, .slice ar ((rst m).length) cr), (30, L 14, .int .i64 (((rst m).length : Nat) : Int)), (31, L 15, .slice (vsa ar ((rst m).length) 1 0) ((rst m).length - 0) ((rst m).length - 0)), (32, L 16, .slice ab b.length cb), (33, L 17, .slice ad1 ((rst m ++ b).length) cp2), (34, L 18, .pointer (some ⟨gh, 0, none⟩)), (35, L 19, .pointer (some ⟨gh, 8, none⟩)), (0, true, .pointer (some ⟨gh, 0, none⟩)), (1, true, .slice ab b.length cb)] [(true, gh, 104, (cond (L 20) (tab .u32 8 (blks HH0 m) ++ ([.slice ad1 ((rst m ++ b).length) cp2, .int .u64 ((m.length + b.length : Nat) : Int)] : List Value)) (tab .u32 8 (blks HH0 m) ++ ([.slice ar ((rst m).length) cr, .int .u64 ((m.length + b.length : Nat) : Int)] : List Value))))] ac w) (by kernel_rfl) (by kernel_rfl) ?_ ?_ ?_
  · exact ⟨none, 0, hs.drew.skip.skip.skip.skip.skip.skip.skip.skip.skip.skip.skip.skip.skip.skip.skip.skip.skip.skip.skip.skip.padS.padS⟩
  · refine ⟨?_, ?_, ?_, ?_, ?_, ?_, ?_, ?_, ?_, ?_, ?_, ?_, ?_, ?_, ?_, ?_, ?_, ?_, ?_, ?_, ?_, trivial⟩
    · intro L ac w hJ
      obtain ⟨ad1, cp2, hs⟩ := hJ
      refine wpO_plain rfl (op_move hs (some 0) rfl rfl rfl rfl fun ac hs => ?_)
      exact ⟨ad1, cp2, hs⟩
    · intro L ac w hJ
      obtain ⟨ad1, cp2, hs⟩ := hJ
      refine wpO_plain rfl (op_move hs (some 1) rfl rfl rfl rfl fun ac hs => ?_)
      exact ⟨ad1, cp2, hs⟩
    · intro L ac w hJ
      obtain ⟨ad1, cp2, hs⟩ := hJ
      refine wpO_plain rfl (op_nilCheck hs (some 2) rfl rfl rfl rfl fun ac hs => ?_)
      exact ⟨ad1, cp2, hs⟩
    · intro L ac w hJ
      obtain ⟨ad1, cp2, hs⟩ := hJ
      refine wpO_plain rfl (op_fieldA hs (some 3) rfl rfl rfl Try.underlying104 rfl Try.sizeOf34 (by decide) rfl fun ac hs => ?_)
      exact ⟨ad1, cp2, hs⟩
    · intro L ac w hJ
      obtain ⟨ad1, cp2, hs⟩ := hJ
      refine wpO_plain rfl (op_load hs (some 4) 0 (v := .slice ar ((rst m).length) cr) rfl rfl rfl rfl Try.isAgg34 Try.sizeOf34 (tabs_tail (i := 0) rfl rfl) rfl fun ac hs => ?_)
      exact ⟨ad1, cp2, hs⟩
    · intro L ac w hJ
      obtain ⟨ad1, cp2, hs⟩ := hJ
      refine wpO_plain rfl (op_move hs (some 5) rfl rfl rfl rfl fun ac hs => ?_)
      exact ⟨ad1, cp2, hs⟩
    · intro L ac w hJ
      obtain ⟨ad1, cp2, hs⟩ := hJ
      refine wpO_plain rfl (op_nilCheck hs (some 6) rfl rfl rfl rfl fun ac hs => ?_)
      exact ⟨ad1, cp2, hs⟩
    · intro L ac w hJ
      obtain ⟨ad1, cp2, hs⟩ := hJ
      refine wpO_plain rfl (op_fieldA hs (some 7) rfl rfl rfl Try.underlying104 rfl Try.sizeOf34 (by decide) rfl fun ac hs => ?_)
      exact ⟨ad1, cp2, hs⟩
    · intro L ac w hJ
      obtain ⟨ad1, cp2, hs⟩ := hJ
      refine wpO_plain rfl (op_load hs (some 8) 0 (v := .slice ar ((rst m).length) cr) rfl rfl rfl rfl Try.isAgg34 Try.sizeOf34 (tabs_tail (i := 0) rfl rfl) rfl fun ac hs => ?_)
      exact ⟨ad1, cp2, hs⟩
    · intro L ac w hJ
      obtain ⟨ad1, cp2, hs⟩ := hJ
      refine wpO_plain rfl (op_blt hs (some 9) (v := .int .i64 (((rst m).length : Nat) : Int)) rfl rfl rfl (blt_len Try.underlying34) rfl fun ac hs => ?_)
      exact ⟨ad1, cp2, hs⟩
    · intro L ac w hJ
      obtain ⟨ad1, cp2, hs⟩ := hJ
      refine wpO_plain rfl (op_move hs (some 10) rfl rfl rfl rfl fun ac hs => ?_)
      exact ⟨ad1, cp2, hs⟩
    · intro L ac w hJ
      obtain ⟨ad1, cp2, hs⟩ := hJ
      refine wpO_plain rfl (op_nilCheck hs (some 11) rfl rfl rfl rfl fun ac hs => ?_)
      exact ⟨ad1, cp2, hs⟩
    · intro L ac w hJ
      obtain ⟨ad1, cp2, hs⟩ := hJ
      refine wpO_plain rfl (op_fieldA hs (some 12) rfl rfl rfl Try.underlying104 rfl Try.sizeOf34 (by decide) rfl fun ac hs => ?_)
      exact ⟨ad1, cp2, hs⟩
    · intro L ac w hJ
      obtain ⟨ad1, cp2, hs⟩ := hJ
      refine wpO_plain rfl (op_load hs (some 13) 0 (v := .slice ar ((rst m).length) cr) rfl rfl rfl rfl Try.isAgg34 Try.sizeOf34 (tabs_tail (i := 0) rfl rfl) rfl fun ac hs => ?_)
      exact ⟨ad1, cp2, hs⟩
    · intro L ac w hJ
      obtain ⟨ad1, cp2, hs⟩ := hJ
      refine wpO_plain rfl (op_blt hs (some 14) (v := .int .i64 (((rst m).length : Nat) : Int)) rfl rfl rfl (blt_len Try.underlying34) rfl fun ac hs => ?_)
      exact ⟨ad1, cp2, hs⟩
    · intro L ac w hJ
      obtain ⟨ad1, cp2, hs⟩ := hJ
      refine wpO_plain rfl (op_slice3B hs (some 15) (some 2) 0 ((rst m).length) (l := rst m) rfl rfl rfl rfl rfl rfl Try.underlying34 Try.sizeOf5 rfl rfl rfl fun ac hs => ?_)
      exact ⟨ad1, cp2, hs⟩
    · intro L ac w hJ
      obtain ⟨ad1, cp2, hs⟩ := hJ
      refine wpO_plain rfl (op_move hs (some 16) rfl rfl rfl rfl fun ac hs => ?_)
      exact ⟨ad1, cp2, hs⟩
    · intro L ac w hJ
      obtain ⟨ad1, cp2, hs⟩ := hJ
      refine wpO_plain rfl (op_appF hs (some 17) (some 3) 2 1 (N' := (rst m ++ b).length) (ys := bcs (rst m ++ b)) rfl rfl rfl rfl rfl rfl Try.underlying34 inf_u8_5 rfl (by decide) (bcs_len1 rfl) (bcs_len1 rfl) (bcs_one _) (by decide) (show (rst m).length - 0 + b.length ≤ 1000000 by omega) (by simp only [List.length_append] <;> omega) (bcs_append _ _) rfl rfl fun ad1 cp2 ac w hs => ?_)
      exact ⟨ad1, cp2, hs⟩
    · intro L ac w hJ
      obtain ⟨ad1, cp2, hs⟩ := hJ
      refine wpO_plain rfl (op_nilCheck hs (some 18) rfl rfl rfl rfl fun ac hs => ?_)
      exact ⟨ad1, cp2, hs⟩
    · intro L ac w hJ
      obtain ⟨ad1, cp2, hs⟩ := hJ
      refine wpO_plain rfl (op_fieldA hs (some 19) rfl rfl rfl Try.underlying104 rfl Try.sizeOf34 (by decide) rfl fun ac hs => ?_)
      exact ⟨ad1, cp2, hs⟩
    · intro L ac w hJ
      obtain ⟨ad1, cp2, hs⟩ := hJ
      refine wpO_plain rfl (op_store hs 0 (vs := [.slice ad1 ((rst m ++ b).length) cp2]) rfl rfl rfl rfl rfl Try.sizeOf34 rfl rfl rfl (tabs_tle (i := 0) rfl (Nat.le_of_ble_eq_true rfl)) (tabs_wr (i := 0) rfl rfl) fun w hs => ?_)
      exact ⟨ad1, cp2, hs⟩
  intro ac w hJ
  obtain ⟨ad1, cp2, hs⟩ := hJ
  replace hs : St 59 ⟨w0, [], [(true, .cel (.slice ar ((rst m).length) cr) ((rst m).length) (bcs (rst m))), (true, .cel (.slice ab b.length cb) b.length (bcs b)), (true, .cel (.slice (vsa ar ((rst m).length) 1 0) ((rst m).length - 0) ((rst m).length - 0)) ((rst m).length - 0) (bcs (rst m))), (true, .cel (.slice ad1 ((rst m ++ b).length) cp2) ((rst m ++ b).length) (bcs (rst m ++ b)))], Z, X⟩ [(16, true, .pointer (some ⟨gh, 0, none⟩)), (17, true, .pointer (some ⟨gh, 0, none⟩)), (18, true, .pointer (some ⟨gh, 0, none⟩)), (19, true, .pointer (some ⟨gh, 8, none⟩)), (20, true, .slice ar ((rst m).length) cr), (21, true, .pointer (some ⟨gh, 0, none⟩)), (22, true, .pointer (some ⟨gh, 0, none⟩)), (23, true, .pointer (some ⟨gh, 8, none⟩)), (24, true, .slice ar ((rst m).length) cr), (25, true, .int .i64 (((rst m).length : Nat) : Int)), (26, true, .pointer (some ⟨gh, 0, none⟩)), (27, true, .pointer (some ⟨gh, 0, none⟩)), (28, true, .pointer (some ⟨gh, 8, none⟩)), (29, true, .slice ar ((rst m).length) cr), (30, true, .int .i64 (((rst m).length : Nat) : Int)), (31, true, .slice (vsa ar ((rst m).length) 1 0) ((rst m).length - 0) ((rst m).length - 0)), (32, true, .slice ab b.length cb), (33, true, .slice ad1 ((rst m ++ b).length) cp2), (34, true, .pointer (some ⟨gh, 0, none⟩)), (35, true, .pointer (some ⟨gh, 8, none⟩)), (0, true, .pointer (some ⟨gh, 0, none⟩)), (1, true, .slice ab b.length cb)] [(true, gh, 104, (tab .u32 8 (blks HH0 m) ++ ([.slice ad1 ((rst m ++ b).length) cp2, .int .u64 ((m.length + b.length : Nat) : Int)] : List Value)))] ac w := hs
  refine then_n ?_
  refine wp_block ?_
  refine wp_loop_m (fun μ ac w => ∃ (h1 : Nat → Nat) (l1 : List UInt8) (a1 : Option Addr) (c1 : Nat), (l1.length) = μ ∧ (∀ j, h1 j < 4294967296) ∧ (blks (blks HH0 m) (rst m ++ b) = blks h1 l1) ∧ (rst (rst m ++ b) = rst l1) ∧ (l1.length ≤ 1000000) ∧ St 59 ⟨w0, [], [(true, .cel (.slice a1 l1.length c1) l1.length (bcs l1)), (true, .cel (.slice ab b.length cb) b.length (bcs b))], Z, X⟩ [(0, true, .pointer (some ⟨gh, 0, none⟩))] [(true, gh, 104, (tab .u32 8 h1 ++ ([.slice a1 l1.length c1, .int .u64 ((m.length + b.length : Nat) : Int)] : List Value)))] ac w) ?_ ?_
  replace hs := hs.selS [3, 1] rfl (by decide)
  · exact ⟨_, (blks HH0 m), (rst m ++ b), ad1, cp2, rfl, (fun j => blks_lt HH0_lt m j), rfl, rfl, (by simp only [List.length_append]; omega), (hs.re (fs' := [(0, true, .pointer (some ⟨gh, 0, none⟩))]) ⟨rfl, trivial⟩)⟩
  intro μ ac w ⟨h1, l1, a1, c1, hμ, hh1, hb1, hr1, hl1, hs⟩
  refine wp_seq ?_
  refine wp_seq ?_
  refine wp_region_lit ?_
  refine lstep (wpO_plain rfl (op_move hs none rfl rfl rfl rfl fun ac hs => ?_))
  refine lstep (wpO_plain rfl (op_nilCheck hs none rfl rfl rfl rfl fun ac hs => ?_))
  refine lstep (wpO_plain rfl (op_fieldA hs none rfl rfl rfl Try.underlying104 rfl Try.sizeOf34 (by decide) rfl fun ac hs => ?_))
  refine lstep (wpO_plain rfl (op_load hs none 0 (v := .slice a1 l1.length c1) rfl rfl rfl rfl Try.isAgg34 Try.sizeOf34 (tabs_tail (i := 0) rfl rfl) rfl fun ac hs => ?_))
  refine lstep (wpO_plain rfl (op_blt hs none (v := .int .i64 ((l1.length : Nat) : Int)) rfl rfl rfl (blt_len Try.underlying34) rfl fun ac hs => ?_))
  refine lstep (wpO_plain rfl (op_bin hs none (v := .bool (decide (64 ≤ l1.length))) rfl rfl rfl rfl (fun _ => rfl) (bin_geqN (x := l1.length) (y := 64)) rfl fun ac hs => ?_))
  refine wpList_nil ?_
  refine then_n ?_
  refine wp_cond_split (hs.ev rfl) (fun hc => ?_) (fun hc => ?_)
  · skip
    have hp3 := of_decide_eq_true hc
    have h64 := of_decide_eq_true hc
    refine wp_skip ?_
    refine then_n ?_
    refine wp_block ?_
    refine wp_seq ?_
    replace hs : St 59 ⟨w0, [], [(true, .cel (.slice a1 l1.length c1) l1.length (bcs l1)), (true, .cel (.slice ab b.length cb) b.length (bcs b))], Z, X⟩ [(0, true, .pointer (some ⟨gh, 0, none⟩))] [(true, gh, 104, (tab .u32 8 h1 ++ ([.slice a1 l1.length c1, .int .u64 ((m.length + b.length : Nat) : Int)] : List Value)))] ac _ := hs.re ⟨rfl, trivial⟩
    refine region_inv [([], [1, 2, 8]), ([0], [2, 8]), ([0, 1], [8]), ([], [4, 5, 6, 7, 8]), ([3], [5, 6, 7, 8]), ([3, 4], [6, 7, 8]), ([3, 4, 5], [7, 8]), ([3, 4, 5, 6], [8]), ([0, 1, 2, 3, 4, 5, 6, 7], [])] (fun L ac w => St 59 ⟨w0, [], [(true, .cel (.slice a1 l1.length c1) l1.length (bcs l1)), (true, .cel (.slice ab b.length cb) b.length (bcs b)), (L 7, .cel (.slice (vsa a1 c1 1 0) ((l1.take 64).length) (c1 - 0)) ((l1.take 64).length) (bcs (l1.take 64)))], Z, X⟩ [(42, L 0, .pointer (some ⟨gh, 0, none⟩)), (43, L 1, .pointer (some ⟨gh, 0, none⟩)), (44, L 2, .pointer (some ⟨gh, 0, none⟩)), (45, L 3, .pointer (some ⟨gh, 0, none⟩)), (46, L 4, .pointer (some ⟨gh, 0, none⟩)), (47, L 5, .pointer (some ⟨gh, 8, none⟩)), (48, L 6, .slice a1 l1.length c1), (49, L 7, .slice (vsa a1 c1 1 0) ((l1.take 64).length) (c1 - 0)), (50, L 8, .tuple #[]), (0, true, .pointer (some ⟨gh, 0, none⟩))] [(true, gh, 104, (cond (L 8) (tab .u32 8 (blk h1 (l1.take 64)) ++ ([.slice a1 l1.length c1, .int .u64 ((m.length + b.length : Nat) : Int)] : List Value)) (tab .u32 8 h1 ++ ([.slice a1 l1.length c1, .int .u64 ((m.length + b.length : Nat) : Int)] : List Value))))] ac w) (by kernel_rfl) (by kernel_rfl) ?_ ?_ ?_
    · exact hs.drew.skip.skip.skip.skip.skip.skip.skip.skip.skip.padS
    · refine ⟨?_, ?_, ?_, ?_, ?_, ?_, ?_, ?_, ?_, trivial⟩
      · intro L ac w hJ
        have hs := hJ
        refine wpO_plain rfl (op_move hs (some 0) rfl rfl rfl rfl fun ac hs => ?_)
        exact hs
      · intro L ac w hJ
        have hs := hJ
        refine wpO_plain rfl (op_nilCheck hs (some 1) rfl rfl rfl rfl fun ac hs => ?_)
        exact hs
      · intro L ac w hJ
        have hs := hJ
        refine wpO_plain rfl (op_fieldA hs (some 2) rfl rfl rfl Try.underlying104 rfl Try.sizeOf101 (by decide) rfl fun ac hs => ?_)
        exact hs
      · intro L ac w hJ
        have hs := hJ
        refine wpO_plain rfl (op_move hs (some 3) rfl rfl rfl rfl fun ac hs => ?_)
        exact hs
      · intro L ac w hJ
        have hs := hJ
        refine wpO_plain rfl (op_nilCheck hs (some 4) rfl rfl rfl rfl fun ac hs => ?_)
        exact hs
      · intro L ac w hJ
        have hs := hJ
        refine wpO_plain rfl (op_fieldA hs (some 5) rfl rfl rfl Try.underlying104 rfl Try.sizeOf34 (by decide) rfl fun ac hs => ?_)
        exact hs
      · intro L ac w hJ
        have hs := hJ
        refine wpO_plain rfl (op_load hs (some 6) 0 (v := .slice a1 l1.length c1) rfl rfl rfl rfl Try.isAgg34 Try.sizeOf34 (tabs_tail (i := 0) rfl rfl) rfl fun ac hs => ?_)
        exact hs
      · intro L ac w hJ
        have hs := hJ
        refine wpO_plain rfl (op_sliceR hs (some 7) (some 2) 0 0 64 (N' := (l1.take 64).length) (cs' := bcs (l1.take 64)) rfl rfl rfl rfl (.inl ⟨rfl, rfl⟩) (.inr ⟨_, _, rfl, rfl⟩) Try.underlying34 Try.sizeOf5 (show 0 ≤ 64 by omega) (show 64 ≤ l1.length by omega) (len_hi (show 64 ≤ l1.length by omega)) bcs_hi rfl rfl fun ac hs => ?_)
        exact hs
      · intro L ac w hJ
        have hs := hJ
        refine wpO_plain rfl (op_callX (F := 80) (ρ := Unit) hs (some 8) none [0] [2] (v := fun r => .tuple #[]) (S1 := [(true, .cel (.slice (vsa a1 c1 1 0) ((l1.take 64).length) (c1 - 0)) ((l1.take 64).length) (bcs (l1.take 64)))]) (bs1 := [(true, gh, 104, (tab .u32 8 h1 ++ ([.slice a1 l1.length c1, .int .u64 ((m.length + b.length : Nat) : Int)] : List Value)))]) (E := fun r => [(true, .cel (.slice (vsa a1 c1 1 0) ((l1.take 64).length) (c1 - 0)) ((l1.take 64).length) (bcs (l1.take 64)))]) (E1 := fun r => [(true, .cel (.slice (vsa a1 c1 1 0) ((l1.take 64).length) (c1 - 0)) ((l1.take 64).length) (bcs (l1.take 64)))]) (E2 := fun r => []) (bfA := fun r => [(true, gh, 104, (tab .u32 8 (blk h1 (l1.take 64)) ++ ([.slice a1 l1.length c1, .int .u64 ((m.length + b.length : Nat) : Int)] : List Value)))]) (bf := fun r => [(true, gh, 104, (tab .u32 8 (blk h1 (l1.take 64)) ++ ([.slice a1 l1.length c1, .int .u64 ((m.length + b.length : Nat) : Int)] : List Value)))]) (bf2 := fun r => []) rfl rfl rfl rfl rfl (Try.call80 _) rfl rfl (by decide) (by decide) (fun Z X hm => take_c gh 104 h1 ([.slice a1 l1.length c1, .int .u64 ((m.length + b.length : Nat) : Int)] : List Value) (fun j => hh1 j) (vsa a1 c1 1 0) (c1 - 0) (l1.take 64) (show (l1.take 64).length = 64 by first | omega | ((try simp only [List.length_drop, List.length_take, List.length_append, List.length_cons, List.length_nil]); omega)) _ _ _ hm) (fun _ => rfl) (fun _ => rfl) (fun _ => rfl) (fun _ => rfl) (fun _ => rfl) rfl fun _ ac w hs => ?_)
        exact hs
    intro ac w hJ
    replace hs : St 59 ⟨w0, [], [(true, .cel (.slice a1 l1.length c1) l1.length (bcs l1)), (true, .cel (.slice ab b.length cb) b.length (bcs b)), (true, .cel (.slice (vsa a1 c1 1 0) ((l1.take 64).length) (c1 - 0)) ((l1.take 64).length) (bcs (l1.take 64)))], Z, X⟩ [(42, true, .pointer (some ⟨gh, 0, none⟩)), (43, true, .pointer (some ⟨gh, 0, none⟩)), (44, true, .pointer (some ⟨gh, 0, none⟩)), (45, true, .pointer (some ⟨gh, 0, none⟩)), (46, true, .pointer (some ⟨gh, 0, none⟩)), (47, true, .pointer (some ⟨gh, 8, none⟩)), (48, true, .slice a1 l1.length c1), (49, true, .slice (vsa a1 c1 1 0) ((l1.take 64).length) (c1 - 0)), (50, true, .tuple #[]), (0, true, .pointer (some ⟨gh, 0, none⟩))] [(true, gh, 104, (tab .u32 8 (blk h1 (l1.take 64)) ++ ([.slice a1 l1.length c1, .int .u64 ((m.length + b.length : Nat) : Int)] : List Value)))] ac w := hJ
    refine then_n ?_
    refine wp_region_lit ?_
    refine lstep (wpO_plain rfl (op_move hs none rfl rfl rfl rfl fun ac hs => ?_))
    refine lstep (wpO_plain rfl (op_move hs none rfl rfl rfl rfl fun ac hs => ?_))
    refine lstep (wpO_plain rfl (op_nilCheck hs none rfl rfl rfl rfl fun ac hs => ?_))
    refine lstep (wpO_plain rfl (op_fieldA hs none rfl rfl rfl Try.underlying104 rfl Try.sizeOf34 (by decide) rfl fun ac hs => ?_))
    refine lstep (wpO_plain rfl (op_load hs none 0 (v := .slice a1 l1.length c1) rfl rfl rfl rfl Try.isAgg34 Try.sizeOf34 (tabs_tail (i := 0) rfl rfl) rfl fun ac hs => ?_))
    refine lstep (wpO_plain rfl (op_sliceR hs none none 0 64 l1.length (N' := (l1.drop 64).length) (cs' := bcs (l1.drop 64)) rfl rfl rfl rfl (.inr ⟨_, _, rfl, rfl⟩) (.inl ⟨rfl, rfl⟩) Try.underlying34 Try.sizeOf5 (show 64 ≤ l1.length by omega) (show l1.length ≤ l1.length by omega) len_lo bcs_lo rfl rfl fun ac hs => ?_))
    refine lstep (wpO_plain rfl (op_nilCheck hs none rfl rfl rfl rfl fun ac hs => ?_))
    refine lstep (wpO_plain rfl (op_fieldA hs none rfl rfl rfl Try.underlying104 rfl Try.sizeOf34 (by decide) rfl fun ac hs => ?_))
    refine lstep (wpO_plain rfl (op_store hs 0 (vs := [.slice (vsa a1 c1 1 64) ((l1.drop 64).length) (c1 - 64)]) rfl rfl rfl rfl rfl Try.sizeOf34 rfl rfl rfl (tabs_tle (i := 0) rfl (Nat.le_of_ble_eq_true rfl)) (tabs_wr (i := 0) rfl rfl) fun w hs => ?_))
    refine wpList_nil ?_
    refine blk_n ?_
    refine then_n ?_
    replace hs := hs.selS [3, 1] rfl (by decide)
    exact ⟨_, ⟨(blk h1 (l1.take 64)), (l1.drop 64), (vsa a1 c1 1 64), (c1 - 64), rfl, (fun j => blk_lt _ _ j), (hb1.trans (blks_step (by omega))), (hr1.trans (rst_step (by omega))), (by simp only [List.length_drop]; omega), (hs.re (fs' := [(0, true, .pointer (some ⟨gh, 0, none⟩))]) ⟨rfl, trivial⟩)⟩, (by simp only [List.length_drop]; omega)⟩
  · skip
    have hp4 := of_decide_eq_false hc
    have h64 := of_decide_eq_false hc
    have hbe : blks HH0 (m ++ b) = h1 := by rw [← wr_h, hb1, blks_end (by omega)]
    have hre : rst (m ++ b) = l1 := by rw [rst_append, hr1, rst_end (by omega)]
    refine wp_exit ?_
    refine then_e ?_
    refine then_e ?_
    refine blk_e ?_
    subst hbe; subst hre
    replace hs := hs.setb 0 (cs' := (tab .u32 8 (blks HH0 (m ++ b)) ++ ([.slice a1 ((rst (m ++ b)).length) c1, .int .u64 (((m ++ b).length : Nat) : Int)] : List Value))) rfl (by simp only [List.length_append])
    exact bodyPost_end (res0 rfl) hs.defers ⟨⟨a1, c1⟩, rfl, ((hs.selS [0, 1] rfl (by decide)).selB [0] rfl (by decide)).mem⟩
theorem hsum_c (gh : Nat) (ar : Option Addr) (cr : Nat) (m : List UInt8) (hmb : m.length ≤ 900000) (w0 : World) (Z X : Nat → Prop) (hm : Mem ⟨w0, [], [(true, .cel (.slice ar ((rst m).length) cr) ((rst m).length) (bcs (rst m)))], Z, X⟩ [(true, gh, 104, (tab .u32 8 (blks HH0 m) ++ ([.slice ar ((rst m).length) cr, .int .u64 ((m.length : Nat) : Int)] : List Value)))] w0) : Calls Try.prog 70 #[.pointer (some ⟨gh, 0, none⟩)] w0 fun e w' => PostX w0 Z X (ρ := Unit) (fun r => At .u8 32 (sha m)) (fun r => [(true, gh, 104, tab .u32 8 (blks HH0 m) ++ ([.slice ar (rst m).length cr, .int .u64 ((m.length : Nat) : Int)] : List Value))]) (fun r => [(true, .cel (.slice ar (rst m).length cr) (rst m).length (bcs (rst m)))]) e w' := by
  have hrl := rst_lt m
  refine enterX (n := 81) (args := [.pointer (some ⟨gh, 0, none⟩)]) Try.func70 rfl rfl (Nat.le_of_ble_eq_true rfl) hm fun ac hs => ?_
  refine wp_seq ?_
  refine wp_region_lit ?_
  refine lstep (wpO_plain rfl (op_alloc hs none none (cs := (tab .u8 32 (fun _ => 0))) rfl rfl Try.zeroValue89 (by kernel_rfl) rfl rfl fun g1 ac w hs => ?_))
  refine wpList_nil ?_
  refine then_n ?_
  refine wp_seq ?_
  refine wp_seq ?_
  refine wp_region_lit ?_
  refine lstep (wpO_plain rfl (op_move hs none rfl rfl rfl rfl fun ac hs => ?_))
  refine lstep (wpO_plain rfl (op_bin hs none (v := .bool false) rfl rfl rfl rfl (fun _ => rfl) (bin_eqlP0 Try.underlying90) rfl fun ac hs => ?_))
  refine wpList_nil ?_
  refine then_n ?_
  refine wp_cond_false (hs.ev rfl) ?_
  refine wp_skip ?_
  refine then_n ?_
  refine wp_seq ?_
  refine wp_region_lit ?_
  refine lstep (wpO_plain rfl (op_bsO0 hs none none (size := 1) rfl rfl Try.underlying34 inf_u8_5 rfl rfl fun ad3 ac w hs => ?_))
  refine lstep (wpO_plain rfl (op_move hs none rfl rfl rfl rfl fun ac hs => ?_))
  refine lstep (wpO_plain rfl (op_nilCheck hs none rfl rfl rfl rfl fun ac hs => ?_))
  refine lstep (wpO_plain rfl (op_fieldA hs none rfl rfl rfl Try.underlying104 rfl Try.sizeOf34 (by decide) rfl fun ac hs => ?_))
  refine lstep (wpO_plain rfl (op_load hs none 0 (v := .slice ar ((rst m).length) cr) rfl rfl rfl rfl Try.isAgg34 Try.sizeOf34 (tabs_tail (i := 0) rfl rfl) rfl fun ac hs => ?_))
  refine lstep (wpO_plain rfl (op_appR hs none 1 0 (N' := (rst m).length) (ys := bcs (rst m)) rfl rfl rfl rfl rfl rfl Try.underlying34 inf_u8_5 rfl (by decide) (bcs_len1 rfl) (bcs_one _) (by decide) (show 0 + ((rst m).length) ≤ 1000000 by omega) (Nat.zero_add _) rfl rfl rfl fun ad4 cp5 ac w hs => ?_))
  refine lstep (wpO_plain rfl (op_assign hs none rfl rfl rfl rfl fun ac hs => ?_))
  refine wpList_nil ?_
  refine then_n ?_
  refine wp_seq ?_
  replace hs : St 81 ⟨w0, [], [(true, .cel (.slice ar ((rst m).length) cr) ((rst m).length) (bcs (rst m))), (true, .own (.slice ad4 ((rst m).length) cp5) 5 1 ((rst m).length) (bcs (rst m)))], Z, X⟩ [(0, true, .pointer (some ⟨gh, 0, none⟩)), (2, true, .pointer (some ⟨g1, 0, none⟩)), (3, true, .slice ad4 ((rst m).length) cp5)] [(true, gh, 104, (tab .u32 8 (blks HH0 m) ++ ([.slice ar ((rst m).length) cr, .int .u64 ((m.length : Nat) : Int)] : List Value))), (true, g1, 89, (tab .u8 32 (fun _ => 0)))] ac _ := hs.re ⟨rfl, rfl, rfl, trivial⟩
  refine wp_region_lit ?_
  refine lstep (wpO_plain rfl (op_move hs none rfl rfl rfl rfl fun ac hs => ?_))
  refine lstep (wpO_plain rfl (op_bsO hs none none (qs := [(0, .int .u8 128)]) (cs := [.int .u8 128]) (cs' := bcs [UInt8.ofNat 128]) rfl rfl rfl rfl Try.underlying34 inf_u8_5 (by decide) (by decide) (fill_one _ _ rfl ) rfl (bcs_cons (by decide) rfl) rfl rfl fun ad7 ac w hs => ?_))
  refine lstep (wpO_plain rfl (op_appR hs none 1 2 (N' := (rst m ++ [UInt8.ofNat 128]).length) (ys := bcs (rst m ++ [UInt8.ofNat 128])) rfl rfl rfl rfl rfl rfl Try.underlying34 inf_u8_5 rfl (by decide) (bcs_len1 rfl) (bcs_one _) (by decide) (show (rst m).length + 1 ≤ 1000000 by omega) (by simp only [List.length_append, List.length_cons, List.length_nil] <;> omega) (bcs_append _ _) rfl rfl fun ad8 cp9 ac w hs => ?_))
  refine lstep (wpO_plain rfl (op_assign hs none rfl rfl rfl rfl fun ac hs => ?_))
  refine wpList_nil ?_
  refine then_n ?_
  refine wp_seq ?_
  refine wp_block ?_
  rw [show rst m ++ [UInt8.ofNat 128] = rst m ++ tl0 0 from rfl] at hs
  refine wp_loop_m (fun μ ac w => ∃ (j : Nat) (ao : Option Addr) (co : Nat), (zs64 (rst m).length - j) = μ ∧ (j ≤ zs64 (rst m).length) ∧ St 81 ⟨w0, [], [(true, .cel (.slice ar ((rst m).length) cr) ((rst m).length) (bcs (rst m))), (true, .own (.slice ao ((rst m ++ tl0 j).length) co) 5 1 ((rst m ++ tl0 j).length) (bcs (rst m ++ tl0 j)))], Z, X⟩ [(0, true, .pointer (some ⟨gh, 0, none⟩)), (2, true, .pointer (some ⟨g1, 0, none⟩)), (3, true, .slice ao ((rst m ++ tl0 j).length) co)] [(true, gh, 104, (tab .u32 8 (blks HH0 m) ++ ([.slice ar ((rst m).length) cr, .int .u64 ((m.length : Nat) : Int)] : List Value))), (true, g1, 89, (tab .u8 32 (fun _ => 0)))] ac w) ?_ ?_
  replace hs := hs.selS [0, 1] rfl (by decide)
  · exact ⟨_, 0, ad8, cp9, rfl, (Nat.zero_le _), (hs.re (fs' := [(0, true, .pointer (some ⟨gh, 0, none⟩)), (2, true, .pointer (some ⟨g1, 0, none⟩)), (3, true, .slice ad8 ((rst m ++ tl0 0).length) cp9)]) ⟨rfl, rfl, rfl, trivial⟩)⟩
  intro μ ac w ⟨j, ao, co, hμ, hj, hs⟩
  have hll : (rst m ++ tl0 j).length = (rst m).length + (j + 1) := by rw [List.length_append, tl0_len]
  have hz63 : zs64 (rst m).length < 64 := Nat.mod_lt _ (by decide)
  refine wp_seq ?_
  refine wp_seq ?_
  refine wp_region_lit ?_
  refine lstep (wpO_plain rfl (op_move hs none rfl rfl rfl rfl fun ac hs => ?_))
  refine lstep (wpO_plain rfl (op_blt hs none (v := .int .i64 (((rst m ++ tl0 j).length : Nat) : Int)) rfl rfl rfl (blt_len Try.underlying34) rfl fun ac hs => ?_))
  refine lstep (wpO_plain rfl (op_bin hs none (v := .int .i64 ((((rst m ++ tl0 j).length) % 64 : Nat) : Int)) rfl rfl rfl rfl (fun _ => rfl) (bin_remN (x := (rst m ++ tl0 j).length) (y := 64) (z := ((rst m ++ tl0 j).length) % 64) rfl (by decide)) rfl fun ac hs => ?_))
  refine lstep (wpO_plain rfl (op_bin hs none (v := .bool (decide (((rst m ++ tl0 j).length) % 64 ≠ 56))) rfl rfl rfl rfl (fun _ => rfl) (bin_neqN (x := ((rst m ++ tl0 j).length) % 64) (y := 56)) rfl fun ac hs => ?_))
  refine wpList_nil ?_
  refine then_n ?_
  refine wp_cond_split (hs.ev rfl) (fun hc => ?_) (fun hc => ?_)
  · skip
    have hp10 := of_decide_eq_true hc
    have hz : ¬ ((rst m).length + (j + 1)) % 64 = 56 := by rw [← hll]; exact of_decide_eq_true hc
    refine wp_skip ?_
    refine then_n ?_
    refine wp_block ?_
    refine wp_region_lit ?_
    refine lstep (wpO_plain rfl (op_move hs none rfl rfl rfl rfl fun ac hs => ?_))
    refine lstep (wpO_plain rfl (op_bsO hs none none (qs := [(0, .int .u8 0)]) (cs := [.int .u8 0]) (cs' := bcs [UInt8.ofNat 0]) rfl rfl rfl rfl Try.underlying34 inf_u8_5 (by decide) (by decide) (fill_one _ _ rfl ) rfl (bcs_cons (by decide) rfl) rfl rfl fun ad12 ac w hs => ?_))
    refine lstep (wpO_plain rfl (op_appR hs none 1 2 (N' := (rst m ++ tl0 j ++ [UInt8.ofNat 0]).length) (ys := bcs (rst m ++ tl0 j ++ [UInt8.ofNat 0])) rfl rfl rfl rfl rfl rfl Try.underlying34 inf_u8_5 rfl (by decide) (bcs_len1 rfl) (bcs_one _) (by decide) (show (rst m ++ tl0 j).length + 1 ≤ 1000000 by first | omega | ((try simp only [List.length_drop, List.length_take, List.length_append, List.length_cons, List.length_nil]); omega)) (by simp only [List.length_append, List.length_cons, List.length_nil] <;> omega) (bcs_append _ _) rfl rfl fun ad13 cp14 ac w hs => ?_))
    refine lstep (wpO_plain rfl (op_assign hs none rfl rfl rfl rfl fun ac hs => ?_))
    refine wpList_nil ?_
    refine blk_n ?_
    refine then_n ?_
    rw [show rst m ++ tl0 j ++ [UInt8.ofNat 0] = rst m ++ tl0 (j + 1) from (by rw [List.append_assoc, tl0_succ])] at hs
    replace hs := hs.selS [0, 1] rfl (by decide)
    exact ⟨_, ⟨(j + 1), ad13, cp14, rfl, (zs_go hj hz), (hs.re (fs' := [(0, true, .pointer (some ⟨gh, 0, none⟩)), (2, true, .pointer (some ⟨g1, 0, none⟩)), (3, true, .slice ad13 ((rst m ++ tl0 (j + 1)).length) cp14)]) ⟨rfl, rfl, rfl, trivial⟩)⟩, (by have := zs_go hj hz; omega)⟩
  · skip
    have hp15 := of_decide_eq_false hc
    obtain rfl : j = zs64 (rst m).length := zs_end hj (by rw [← hll]; exact Classical.not_not.1 (of_decide_eq_false hc))
    refine wp_exit ?_
    refine then_e ?_
    refine then_e ?_
    refine blk_e ?_
    refine then_n ?_
    refine wp_seq ?_
    refine wp_region_lit ?_
    refine lstep (wpO_plain rfl (op_move hs none rfl rfl rfl rfl fun ac hs => ?_))
    refine lstep (wpO_plain rfl (op_nilCheck hs none rfl rfl rfl rfl fun ac hs => ?_))
    refine lstep (wpO_plain rfl (op_fieldA hs none rfl rfl rfl Try.underlying104 rfl Try.sizeOf86 (by decide) rfl fun ac hs => ?_))
    refine lstep (wpO_plain rfl (op_load hs none 0 (v := .int .u64 ((m.length : Nat) : Int)) rfl rfl rfl rfl Try.isAgg86 Try.sizeOf86 (tabs_tail (i := 1) rfl rfl) rfl fun ac hs => ?_))
    refine lstep (wpO_plain rfl (op_bin hs none (v := .int .u64 ((m.length * 8 : Nat) : Int)) rfl rfl rfl rfl (fun _ => rfl) (bin_mulN (x := m.length) (y := 8) (z := m.length * 8) rfl (show m.length * 8 < 18446744073709551616 by omega)) rfl fun ac hs => ?_))
    refine lstep (wpO_plain rfl (op_assign hs none rfl rfl rfl rfl fun ac hs => ?_))
    refine wpList_nil ?_
    refine then_n ?_
    refine wp_seq ?_
    refine wp_seq ?_
    replace hs : St 81 ⟨w0, [], [(true, .cel (.slice ar ((rst m).length) cr) ((rst m).length) (bcs (rst m))), (true, .own (.slice ao ((rst m ++ tl0 (zs64 (rst m).length)).length) co) 5 1 ((rst m ++ tl0 (zs64 (rst m).length)).length) (bcs (rst m ++ tl0 (zs64 (rst m).length))))], Z, X⟩ [(0, true, .pointer (some ⟨gh, 0, none⟩)), (2, true, .pointer (some ⟨g1, 0, none⟩)), (3, true, .slice ao ((rst m ++ tl0 (zs64 (rst m).length)).length) co), (4, true, .int .u64 ((m.length * 8 : Nat) : Int))] [(true, gh, 104, (tab .u32 8 (blks HH0 m) ++ ([.slice ar ((rst m).length) cr, .int .u64 ((m.length : Nat) : Int)] : List Value))), (true, g1, 89, (tab .u8 32 (fun _ => 0)))] ac _ := hs.re ⟨rfl, rfl, rfl, rfl, trivial⟩
    refine wp_region_lit ?_
    refine lstep (wpO_plain rfl (op_assign hs none rfl rfl rfl rfl fun ac hs => ?_))
    refine wpList_nil ?_
    refine then_n ?_
    refine wp_block ?_
    rw [show rst m ++ tl0 (zs64 (rst m).length) = (rst m ++ tl0 (zs64 (rst m).length)) ++ be8t (m.length * 8) 0 from (by simp [be8t])] at hs
    refine wp_loop_m (fun μ ac w => ∃ (k : Nat) (ao2 : Option Addr) (co2 : Nat), (8 - k) = μ ∧ (k ≤ 8) ∧ St 81 ⟨w0, [], [(true, .cel (.slice ar ((rst m).length) cr) ((rst m).length) (bcs (rst m))), (true, .own (.slice ao2 (((rst m ++ tl0 (zs64 (rst m).length)) ++ be8t (m.length * 8) k).length) co2) 5 1 (((rst m ++ tl0 (zs64 (rst m).length)) ++ be8t (m.length * 8) k).length) (bcs ((rst m ++ tl0 (zs64 (rst m).length)) ++ be8t (m.length * 8) k)))], Z, X⟩ [(0, true, .pointer (some ⟨gh, 0, none⟩)), (2, true, .pointer (some ⟨g1, 0, none⟩)), (4, true, .int .u64 ((m.length * 8 : Nat) : Int)), (3, true, .slice ao2 (((rst m ++ tl0 (zs64 (rst m).length)) ++ be8t (m.length * 8) k).length) co2), (5, true, .int .i64 (56 - 8 * (k : Int)))] [(true, gh, 104, (tab .u32 8 (blks HH0 m) ++ ([.slice ar ((rst m).length) cr, .int .u64 ((m.length : Nat) : Int)] : List Value))), (true, g1, 89, (tab .u8 32 (fun _ => 0)))] ac w) ?_ ?_
    · exact ⟨_, 0, ao, co, rfl, (by omega), (hs.re (fs' := [(0, true, .pointer (some ⟨gh, 0, none⟩)), (2, true, .pointer (some ⟨g1, 0, none⟩)), (4, true, .int .u64 ((m.length * 8 : Nat) : Int)), (3, true, .slice ao (((rst m ++ tl0 (zs64 (rst m).length)) ++ be8t (m.length * 8) 0).length) co), (5, true, .int .i64 (56 - 8 * (0 : Int)))]) ⟨rfl, rfl, rfl, rfl, rfl, trivial⟩)⟩
    intro μ ac w ⟨k, ao2, co2, hμ, hk, hs⟩
    have hlk : ((rst m ++ tl0 (zs64 (rst m).length)) ++ be8t (m.length * 8) k).length = (rst m).length + (zs64 (rst m).length + 1) + k := by rw [List.length_append, List.length_append, tl0_len, be8t_len]
    refine wp_seq ?_
    refine wp_seq ?_
    refine wp_region_lit ?_
    refine lstep (wpO_plain rfl (op_move hs none rfl rfl rfl rfl fun ac hs => ?_))
    refine lstep (wpO_plain rfl (op_bin hs none (v := .bool (decide (0 ≤ 56 - 8 * (k : Int)))) rfl rfl rfl rfl (fun _ => rfl) bin_geqI rfl fun ac hs => ?_))
    refine wpList_nil ?_
    refine then_n ?_
    refine wp_cond_split (hs.ev rfl) (fun hc => ?_) (fun hc => ?_)
    · skip
      have hp16 := of_decide_eq_true hc
      have hk7 : k ≤ 7 := by have := of_decide_eq_true hc; omega
      replace hs := hs.re (fs' := [(0, true, .pointer (some ⟨gh, 0, none⟩)), (2, true, .pointer (some ⟨g1, 0, none⟩)), (4, true, .int .u64 ((m.length * 8 : Nat) : Int)), (3, true, .slice ao2 (((rst m ++ tl0 (zs64 (rst m).length)) ++ be8t (m.length * 8) k).length) co2), (5, true, .int .i64 ((56 - 8 * k : Nat) : Int)), (36, true, .int .i64 (56 - 8 * (k : Int))), (37, true, .bool (decide (0 ≤ 56 - 8 * (k : Int))))]) ⟨rfl, rfl, rfl, rfl, congrArg some (by rw [show (56 - 8 * (k : Int)) = ((56 - 8 * k : Nat) : Int) by omega]), rfl, rfl, trivial⟩
      refine wp_skip ?_
      refine then_n ?_
      refine wp_seq ?_
      refine wp_block ?_
      refine wp_region_lit ?_
      refine lstep (wpO_plain rfl (op_move hs none rfl rfl rfl rfl fun ac hs => ?_))
      refine lstep (wpO_plain rfl (op_move hs none rfl rfl rfl rfl fun ac hs => ?_))
      refine lstep (wpO_plain rfl (op_move hs none rfl rfl rfl rfl fun ac hs => ?_))
      refine lstep (wpO_plain rfl (op_bin hs none (v := .int .u64 (((m.length * 8) / 2 ^ (56 - 8 * k) : Nat) : Int)) rfl rfl rfl rfl (fun _ => rfl) (bin_shrN (x := m.length * 8) (y := 56 - 8 * k) (z := (m.length * 8) / 2 ^ (56 - 8 * k)) rfl (show m.length * 8 < 18446744073709551616 by omega)) rfl fun ac hs => ?_))
      refine lstep (wpO_plain rfl (op_convert hs none (v := .int .u8 (((m.length * 8) / 2 ^ (56 - 8 * k) % 256 : Nat) : Int)) rfl rfl rfl (conv_M (z := (m.length * 8) / 2 ^ (56 - 8 * k) % 256) rfl Try.underlying86 Try.underlying5 rfl) rfl fun ac hs => ?_))
      refine lstep (wpO_plain rfl (op_bsO hs none none (qs := [(0, .int .u8 (((m.length * 8) / 2 ^ (56 - 8 * k) % 256 : Nat) : Int))]) (cs := [.int .u8 (((m.length * 8) / 2 ^ (56 - 8 * k) % 256 : Nat) : Int)]) (cs' := bcs [UInt8.ofNat ((m.length * 8) / 2 ^ (56 - 8 * k) % 256)]) rfl rfl rfl rfl Try.underlying34 inf_u8_5 (by decide) (by decide) (fill_one _ _ rfl ) rfl (bcs_cons (show (m.length * 8) / 2 ^ (56 - 8 * k) % 256 < 256 by omega) rfl) rfl rfl fun ad18 ac w hs => ?_))
      refine lstep (wpO_plain rfl (op_appR hs none 1 2 (N' := ((rst m ++ tl0 (zs64 (rst m).length)) ++ be8t (m.length * 8) k ++ [UInt8.ofNat ((m.length * 8) / 2 ^ (56 - 8 * k) % 256)]).length) (ys := bcs ((rst m ++ tl0 (zs64 (rst m).length)) ++ be8t (m.length * 8) k ++ [UInt8.ofNat ((m.length * 8) / 2 ^ (56 - 8 * k) % 256)])) rfl rfl rfl rfl rfl rfl Try.underlying34 inf_u8_5 rfl (by decide) (bcs_len1 rfl) (bcs_one _) (by decide) (show ((rst m ++ tl0 (zs64 (rst m).length)) ++ be8t (m.length * 8) k).length + 1 ≤ 1000000 by first | omega | ((try simp only [List.length_drop, List.length_take, List.length_append, List.length_cons, List.length_nil]); omega)) (by simp only [List.length_append, List.length_cons, List.length_nil] <;> omega) (bcs_append _ _) rfl rfl fun ad19 cp20 ac w hs => ?_))
      refine lstep (wpO_plain rfl (op_assign hs none rfl rfl rfl rfl fun ac hs => ?_))
      refine wpList_nil ?_
      refine blk_n ?_
      refine then_n ?_
      replace hs : St 81 ⟨w0, [], [(true, .cel (.slice ar ((rst m).length) cr) ((rst m).length) (bcs (rst m))), (true, .own (.slice ad19 (((rst m ++ tl0 (zs64 (rst m).length)) ++ be8t (m.length * 8) k ++ [UInt8.ofNat ((m.length * 8) / 2 ^ (56 - 8 * k) % 256)]).length) cp20) 5 1 (((rst m ++ tl0 (zs64 (rst m).length)) ++ be8t (m.length * 8) k ++ [UInt8.ofNat ((m.length * 8) / 2 ^ (56 - 8 * k) % 256)]).length) (bcs ((rst m ++ tl0 (zs64 (rst m).length)) ++ be8t (m.length * 8) k ++ [UInt8.ofNat ((m.length * 8) / 2 ^ (56 - 8 * k) % 256)]))), (true, .own (.slice ad18 1 1) 5 1 1 (bcs ([UInt8.ofNat ((m.length * 8) / 2 ^ (56 - 8 * k) % 256)])))], Z, X⟩ [(0, true, .pointer (some ⟨gh, 0, none⟩)), (2, true, .pointer (some ⟨g1, 0, none⟩)), (4, true, .int .u64 ((m.length * 8 : Nat) : Int)), (3, true, .slice ad19 (((rst m ++ tl0 (zs64 (rst m).length)) ++ be8t (m.length * 8) k ++ [UInt8.ofNat ((m.length * 8) / 2 ^ (56 - 8 * k) % 256)]).length) cp20), (5, true, .int .i64 ((56 - 8 * k : Nat) : Int))] [(true, gh, 104, (tab .u32 8 (blks HH0 m) ++ ([.slice ar ((rst m).length) cr, .int .u64 ((m.length : Nat) : Int)] : List Value))), (true, g1, 89, (tab .u8 32 (fun _ => 0)))] ac _ := hs.re ⟨rfl, rfl, rfl, rfl, rfl, trivial⟩
      refine wp_region_lit ?_
      refine lstep (wpO_plain rfl (op_move hs none rfl rfl rfl rfl fun ac hs => ?_))
      refine lstep (wpO_plain rfl (op_bin hs none (v := .int .i64 (56 - 8 * ((k + 1 : Nat) : Int))) rfl rfl rfl rfl (fun _ => rfl) (bin_subI (x := ((56 - 8 * k : Nat) : Int)) (y := 8) (by omega) (by omega) (by omega)) rfl fun ac hs => ?_))
      refine lstep (wpO_plain rfl (op_assign hs none rfl rfl rfl rfl fun ac hs => ?_))
      refine wpList_nil ?_
      refine then_n ?_
      rw [show (rst m ++ tl0 (zs64 (rst m).length)) ++ be8t (m.length * 8) k ++ [UInt8.ofNat ((m.length * 8) / 2 ^ (56 - 8 * k) % 256)] = (rst m ++ tl0 (zs64 (rst m).length)) ++ be8t (m.length * 8) (k + 1) from (by rw [be8t_succ, ← List.append_assoc])] at hs
      replace hs := hs.selS [0, 1] rfl (by decide)
      exact ⟨_, ⟨(k + 1), ad19, cp20, rfl, (by omega), (hs.re (fs' := [(0, true, .pointer (some ⟨gh, 0, none⟩)), (2, true, .pointer (some ⟨g1, 0, none⟩)), (4, true, .int .u64 ((m.length * 8 : Nat) : Int)), (3, true, .slice ad19 (((rst m ++ tl0 (zs64 (rst m).length)) ++ be8t (m.length * 8) (k + 1)).length) cp20), (5, true, .int .i64 (56 - 8 * ((k + 1) : Int)))]) ⟨rfl, rfl, rfl, rfl, rfl, trivial⟩)⟩, (by omega)⟩
    · skip
      have hp21 := of_decide_eq_false hc
      obtain rfl : k = 8 := by have := of_decide_eq_false hc; omega
      refine wp_exit ?_
      refine then_e ?_
      refine then_e ?_
      refine blk_e ?_
      refine then_n ?_
      refine wp_seq ?_
      refine wp_region_lit ?_
      refine lstep (wpO_plain rfl (op_move hs none rfl rfl rfl rfl fun ac hs => ?_))
      refine lstep (wpO_plain rfl (op_nilCheck hs none rfl rfl rfl rfl fun ac hs => ?_))
      refine lstep (wpO_plain rfl (op_fieldA hs none rfl rfl rfl Try.underlying104 rfl Try.sizeOf101 (by decide) rfl fun ac hs => ?_))
      refine lstep (wpO_plain rfl (op_load hs none 0 (v := At .u32 8 (blks HH0 m)) rfl rfl rfl rfl Try.isAgg101 Try.sizeOf101 ldv_tabs rfl fun ac hs => ?_))
      refine lstep (wpO_plain rfl (op_alloc hs none none (cs := (tab .u32 8 (fun _ => 0))) rfl rfl Try.zeroValue101 (by kernel_rfl) rfl rfl fun g22 ac w hs => ?_))
      refine lstep (wpO_plain rfl (op_store hs 2 (vs := (tab .u32 8 (blks HH0 m))) rfl rfl rfl rfl rfl Try.sizeOf101 (by kernel_rfl) tab_length' (tab_one _ _ _) tab_leA wr_tab fun w hs => ?_))
      refine wpList_nil ?_
      refine then_n ?_
      refine wp_seq ?_
      refine wp_block ?_
      replace hs := hs.freeze 1 rfl
      rw [show (rst m ++ tl0 (zs64 (rst m).length)) ++ be8t (m.length * 8) 8 = rst m ++ tl64 (rst m).length m.length from (by unfold tl64; rw [← List.append_assoc]; rfl)] at hs
      refine wp_loop_m (fun μ ac w => ∃ (h1 : Nat → Nat) (l1 : List UInt8) (a1 : Option Addr) (c1 : Nat), (l1.length) = μ ∧ (∀ j, h1 j < 4294967296) ∧ (blks (blks HH0 m) (rst m ++ tl64 (rst m).length m.length) = blks h1 l1) ∧ (l1.length % 64 = 0) ∧ St 81 ⟨w0, [], [(true, .cel (.slice ar ((rst m).length) cr) ((rst m).length) (bcs (rst m))), (true, .cel (.slice a1 l1.length c1) l1.length (bcs l1))], Z, X⟩ [(0, true, .pointer (some ⟨gh, 0, none⟩)), (2, true, .pointer (some ⟨g1, 0, none⟩)), (6, true, .pointer (some ⟨g22, 0, none⟩)), (3, true, .slice a1 l1.length c1)] [(true, gh, 104, (tab .u32 8 (blks HH0 m) ++ ([.slice ar ((rst m).length) cr, .int .u64 ((m.length : Nat) : Int)] : List Value))), (true, g1, 89, (tab .u8 32 (fun _ => 0))), (true, g22, 101, (tab .u32 8 h1))] ac w) ?_ ?_
      · exact ⟨_, (blks HH0 m), (rst m ++ tl64 (rst m).length m.length), ao2, co2, rfl, (fun j => blks_lt HH0_lt m j), rfl, (by rw [List.length_append]; exact tl64_len _ _), (hs.re (fs' := [(0, true, .pointer (some ⟨gh, 0, none⟩)), (2, true, .pointer (some ⟨g1, 0, none⟩)), (6, true, .pointer (some ⟨g22, 0, none⟩)), (3, true, .slice ao2 (rst m ++ tl64 (rst m).length m.length).length co2)]) ⟨rfl, rfl, rfl, rfl, trivial⟩)⟩
      intro μ ac w ⟨h1, l1, a1, c1, hμ, hh1, hb1, hm1, hs⟩
      refine wp_seq ?_
      refine wp_seq ?_
      refine wp_region_lit ?_
      refine lstep (wpO_plain rfl (op_move hs none rfl rfl rfl rfl fun ac hs => ?_))
      refine lstep (wpO_plain rfl (op_blt hs none (v := .int .i64 ((l1.length : Nat) : Int)) rfl rfl rfl (blt_len Try.underlying34) rfl fun ac hs => ?_))
      refine lstep (wpO_plain rfl (op_bin hs none (v := .bool (decide (0 < l1.length))) rfl rfl rfl rfl (fun _ => rfl) (bin_gtrN (x := l1.length) (y := 0)) rfl fun ac hs => ?_))
      refine wpList_nil ?_
      refine then_n ?_
      refine wp_cond_split (hs.ev rfl) (fun hc => ?_) (fun hc => ?_)
      · skip
        have hp23 := of_decide_eq_true hc
        have hpos := of_decide_eq_true hc
        have h64 : ¬ l1.length < 64 := by omega
        refine wp_skip ?_
        refine then_n ?_
        refine wp_seq ?_
        refine wp_block ?_
        refine wp_region_lit ?_
        refine lstep (wpO_plain rfl (op_move hs none rfl rfl rfl rfl fun ac hs => ?_))
        refine lstep (wpO_plain rfl (op_sliceR hs none none 1 0 64 (N' := (l1.take 64).length) (cs' := bcs (l1.take 64)) rfl rfl rfl rfl (.inl ⟨rfl, rfl⟩) (.inr ⟨_, _, rfl, rfl⟩) Try.underlying34 Try.sizeOf5 (show 0 ≤ 64 by omega) (show 64 ≤ l1.length by omega) (len_hi (show 64 ≤ l1.length by omega)) bcs_hi rfl rfl fun ac hs => ?_))
        refine lstep (wpO_plain rfl (op_callX (F := 80) (ρ := Unit) hs none none [2] [2] (v := fun r => .tuple #[]) (S1 := [(true, .cel (.slice (vsa a1 c1 1 0) ((l1.take 64).length) (c1 - 0)) ((l1.take 64).length) (bcs (l1.take 64)))]) (bs1 := [(true, g22, 101, (tab .u32 8 h1))]) (E := fun r => [(true, .cel (.slice (vsa a1 c1 1 0) ((l1.take 64).length) (c1 - 0)) ((l1.take 64).length) (bcs (l1.take 64)))]) (E1 := fun r => [(true, .cel (.slice (vsa a1 c1 1 0) ((l1.take 64).length) (c1 - 0)) ((l1.take 64).length) (bcs (l1.take 64)))]) (E2 := fun r => []) (bfA := fun r => [(true, g22, 101, (tab .u32 8 (blk h1 (l1.take 64))))]) (bf := fun r => [(true, g22, 101, (tab .u32 8 (blk h1 (l1.take 64))))]) (bf2 := fun r => []) rfl rfl rfl rfl rfl (Try.call80 _) rfl rfl (by decide) (by decide) (fun Z X hm => take_c g22 101 h1 [] (fun j => hh1 j) (vsa a1 c1 1 0) (c1 - 0) (l1.take 64) (show (l1.take 64).length = 64 by first | omega | ((try simp only [List.length_drop, List.length_take, List.length_append, List.length_cons, List.length_nil]); omega)) _ _ _ hm) (fun _ => rfl) (fun _ => rfl) (fun _ => rfl) (fun _ => rfl) (fun _ => rfl) rfl fun _ ac w hs => ?_))
        refine wpList_nil ?_
        refine blk_n ?_
        refine then_n ?_
        replace hs : St 81 ⟨w0, [], [(true, .cel (.slice ar ((rst m).length) cr) ((rst m).length) (bcs (rst m))), (true, .cel (.slice a1 l1.length c1) l1.length (bcs l1)), (true, .cel (.slice (vsa a1 c1 1 0) ((l1.take 64).length) (c1 - 0)) ((l1.take 64).length) (bcs (l1.take 64)))], Z, X⟩ [(0, true, .pointer (some ⟨gh, 0, none⟩)), (2, true, .pointer (some ⟨g1, 0, none⟩)), (6, true, .pointer (some ⟨g22, 0, none⟩)), (3, true, .slice a1 l1.length c1)] [(true, gh, 104, (tab .u32 8 (blks HH0 m) ++ ([.slice ar ((rst m).length) cr, .int .u64 ((m.length : Nat) : Int)] : List Value))), (true, g1, 89, (tab .u8 32 (fun _ => 0))), (true, g22, 101, (tab .u32 8 (blk h1 (l1.take 64))))] ac _ := hs.re ⟨rfl, rfl, rfl, rfl, trivial⟩
        refine wp_region_lit ?_
        refine lstep (wpO_plain rfl (op_move hs none rfl rfl rfl rfl fun ac hs => ?_))
        refine lstep (wpO_plain rfl (op_sliceR hs none none 1 64 l1.length (N' := (l1.drop 64).length) (cs' := bcs (l1.drop 64)) rfl rfl rfl rfl (.inr ⟨_, _, rfl, rfl⟩) (.inl ⟨rfl, rfl⟩) Try.underlying34 Try.sizeOf5 (show 64 ≤ l1.length by omega) (show l1.length ≤ l1.length by omega) len_lo bcs_lo rfl rfl fun ac hs => ?_))
        refine lstep (wpO_plain rfl (op_assign hs none rfl rfl rfl rfl fun ac hs => ?_))
        refine wpList_nil ?_
        refine then_n ?_
        replace hs := hs.selS [0, 3] rfl (by decide)
        exact ⟨_, ⟨(blk h1 (l1.take 64)), (l1.drop 64), (vsa a1 c1 1 64), (c1 - 64), rfl, (fun j => blk_lt _ _ j), (hb1.trans (blks_step h64)), (by simp only [List.length_drop]; omega), (hs.re (fs' := [(0, true, .pointer (some ⟨gh, 0, none⟩)), (2, true, .pointer (some ⟨g1, 0, none⟩)), (6, true, .pointer (some ⟨g22, 0, none⟩)), (3, true, .slice (vsa a1 c1 1 64) (l1.drop 64).length (c1 - 64))]) ⟨rfl, rfl, rfl, rfl, trivial⟩)⟩, (by simp only [List.length_drop]; omega)⟩
      · skip
        have hp24 := of_decide_eq_false hc
        have hl0 : l1 = [] := List.length_eq_zero_iff.1 (by have := of_decide_eq_false hc; omega)
        have hH : shaH m = h1 := by rw [← sha_sum, hb1, hl0, blks_end (by decide)]
        refine wp_exit ?_
        refine then_e ?_
        refine then_e ?_
        refine blk_e ?_
        refine then_n ?_
        refine wp_seq ?_
        refine wp_region_lit ?_
        refine lstep (wpO_plain rfl (op_alloc hs none none (cs := (tab .u8 32 (fun _ => 0))) rfl rfl Try.zeroValue89 (by kernel_rfl) rfl rfl fun g25 ac w hs => ?_))
        refine wpList_nil ?_
        refine then_n ?_
        refine wp_seq ?_
        refine wp_seq ?_
        refine wp_region_lit ?_
        refine lstep (wpO_plain rfl (op_load hs none 2 (v := At .u32 8 h1) rfl rfl rfl rfl Try.isAgg101 Try.sizeOf101 ldv_tab rfl fun ac hs => ?_))
        refine lstep (wpO_plain rfl (op_move hs none rfl rfl rfl rfl fun ac hs => ?_))
        refine wpList_nil ?_
        refine then_n ?_
        refine wp_block ?_
        replace hs := hs.setb 3 (cs' := (tab .u8 32 (outT h1 (4 * 0)))) rfl (tab_ext fun j hj => outT_zero h1 j)
        refine wp_loop_m (fun μ ac w => ∃ (i : Nat), (8 - i) = μ ∧ (i ≤ 8) ∧ St 81 ⟨w0, [], [(true, .cel (.slice ar ((rst m).length) cr) ((rst m).length) (bcs (rst m)))], Z, X⟩ [(0, true, .pointer (some ⟨gh, 0, none⟩)), (2, true, .pointer (some ⟨g1, 0, none⟩)), (7, true, .pointer (some ⟨g25, 0, none⟩)), (59, true, At .u32 8 h1), (60, true, .int .i64 ((i : Nat) : Int))] [(true, gh, 104, (tab .u32 8 (blks HH0 m) ++ ([.slice ar ((rst m).length) cr, .int .u64 ((m.length : Nat) : Int)] : List Value))), (true, g1, 89, (tab .u8 32 (fun _ => 0))), (true, g22, 101, (tab .u32 8 h1)), (true, g25, 89, (tab .u8 32 (outT h1 (4 * i))))] ac w) ?_ ?_
        replace hs := hs.selS [0] rfl (by decide)
        · exact ⟨_, 0, rfl, (by omega), (hs.re (fs' := [(0, true, .pointer (some ⟨gh, 0, none⟩)), (2, true, .pointer (some ⟨g1, 0, none⟩)), (7, true, .pointer (some ⟨g25, 0, none⟩)), (59, true, At .u32 8 h1), (60, true, .int .i64 ((0 : Nat) : Int))]) ⟨rfl, rfl, rfl, rfl, rfl, trivial⟩)⟩
        intro μ ac w ⟨i, hμ, hi, hs⟩
        refine wp_seq ?_
        refine wp_region_lit ?_
        refine lstep (wpO_plain rfl (op_bin hs none (v := .bool (decide (i < 8))) rfl rfl rfl rfl (fun _ => rfl) (bin_lssN (x := i) (y := 8)) rfl fun ac hs => ?_))
        refine wpList_nil ?_
        refine then_n ?_
        refine wp_seq ?_
        refine wp_cond_split (hs.ev rfl) (fun hc => ?_) (fun hc => ?_)
        · skip
          have hp26 := of_decide_eq_true hc
          have hi8 := of_decide_eq_true hc
          refine wp_skip ?_
          refine then_n ?_
          refine wp_seq ?_
          refine wp_block ?_
          refine wp_seq ?_
          refine wp_region_lit ?_
          refine lstep (wpO_plain rfl (op_move hs none rfl rfl rfl rfl fun ac hs => ?_))
          have l27 := hh1 i
          refine lstep (wpO_plain rfl (op_index hs none (v := .int .u32 ((h1 i : Nat) : Int)) rfl rfl rfl rfl (idx_at (j := i) Try.underlying101 Try.isAgg99 Try.sizeOf99 (show i < 8 by omega)) rfl fun ac hs => ?_))
          refine lstep (wpO_plain rfl (op_assign hs none rfl rfl rfl rfl fun ac hs => ?_))
          refine lstep (wpO_plain rfl (op_assign hs none rfl rfl rfl rfl fun ac hs => ?_))
          refine wpList_nil ?_
          refine then_n ?_
          refine wp_seq ?_
          refine wp_region_lit ?_
          refine lstep (wpO_plain rfl (op_move hs none rfl rfl rfl rfl fun ac hs => ?_))
          refine wpList_nil ?_
          refine then_n ?_
          refine wp_block ?_
          replace hs := hs.setb 3 (cs' := (tab .u8 32 (outT h1 (4 * i + 0)))) rfl rfl
          refine wp_loop_m (fun μ ac w => ∃ (k : Nat), (4 - k) = μ ∧ (k ≤ 4) ∧ St 81 ⟨w0, [], [(true, .cel (.slice ar ((rst m).length) cr) ((rst m).length) (bcs (rst m)))], Z, X⟩ [(0, true, .pointer (some ⟨gh, 0, none⟩)), (2, true, .pointer (some ⟨g1, 0, none⟩)), (7, true, .pointer (some ⟨g25, 0, none⟩)), (8, true, .int .i64 ((i : Nat) : Int)), (9, true, .int .u32 ((h1 i : Nat) : Int)), (59, true, At .u32 8 h1), (60, true, .int .i64 ((i : Nat) : Int)), (64, true, .int .i64 ((k : Nat) : Int))] [(true, gh, 104, (tab .u32 8 (blks HH0 m) ++ ([.slice ar ((rst m).length) cr, .int .u64 ((m.length : Nat) : Int)] : List Value))), (true, g1, 89, (tab .u8 32 (fun _ => 0))), (true, g22, 101, (tab .u32 8 h1)), (true, g25, 89, (tab .u8 32 (outT h1 (4 * i + k))))] ac w) ?_ ?_
          · exact ⟨_, 0, rfl, (by omega), (hs.re (fs' := [(0, true, .pointer (some ⟨gh, 0, none⟩)), (2, true, .pointer (some ⟨g1, 0, none⟩)), (7, true, .pointer (some ⟨g25, 0, none⟩)), (8, true, .int .i64 ((i : Nat) : Int)), (9, true, .int .u32 ((h1 i : Nat) : Int)), (59, true, At .u32 8 h1), (60, true, .int .i64 ((i : Nat) : Int)), (64, true, .int .i64 ((0 : Nat) : Int))]) ⟨rfl, rfl, rfl, rfl, rfl, rfl, rfl, rfl, trivial⟩)⟩
          intro μ ac w ⟨k, hμ, hk, hs⟩
          refine wp_seq ?_
          refine wp_region_lit ?_
          refine lstep (wpO_plain rfl (op_bin hs none (v := .bool (decide (k < 4))) rfl rfl rfl rfl (fun _ => rfl) (bin_lssN (x := k) (y := 4)) rfl fun ac hs => ?_))
          refine wpList_nil ?_
          refine then_n ?_
          refine wp_seq ?_
          refine wp_cond_split (hs.ev rfl) (fun hc => ?_) (fun hc => ?_)
          · skip
            have hp28 := of_decide_eq_true hc
            have hk4 := of_decide_eq_true hc
            refine wp_skip ?_
            refine then_n ?_
            refine wp_seq ?_
            refine wp_block ?_
            refine wp_seq ?_
            refine wp_region_lit ?_
            refine lstep (wpO_plain rfl (op_move hs none rfl rfl rfl rfl fun ac hs => ?_))
            refine lstep (wpO_plain rfl (op_assign hs none rfl rfl rfl rfl fun ac hs => ?_))
            refine wpList_nil ?_
            refine then_n ?_
            refine wp_region_lit ?_
            refine lstep (wpO_plain rfl (op_move hs none rfl rfl rfl rfl fun ac hs => ?_))
            refine lstep (wpO_plain rfl (op_bin hs none (v := .int .i64 ((4 * i : Nat) : Int)) rfl rfl rfl rfl (fun _ => rfl) (bin_mulN (x := 4) (y := i) (z := 4 * i) rfl (show 4 * i < 9223372036854775808 by omega)) rfl fun ac hs => ?_))
            refine lstep (wpO_plain rfl (op_move hs none rfl rfl rfl rfl fun ac hs => ?_))
            refine lstep (wpO_plain rfl (op_bin hs none (v := .int .i64 ((4 * i + k : Nat) : Int)) rfl rfl rfl rfl (fun _ => rfl) (bin_addN (x := 4 * i) (y := k) (z := 4 * i + k) rfl (show 4 * i + k < 9223372036854775808 by omega)) rfl fun ac hs => ?_))
            refine lstep (wpO_plain rfl (op_move hs none rfl rfl rfl rfl fun ac hs => ?_))
            refine lstep (wpO_plain rfl (op_move hs none rfl rfl rfl rfl fun ac hs => ?_))
            refine lstep (wpO_plain rfl (op_bin hs none (v := .int .i64 ((8 * k : Nat) : Int)) rfl rfl rfl rfl (fun _ => rfl) (bin_mulN (x := 8) (y := k) (z := 8 * k) rfl (show 8 * k < 9223372036854775808 by omega)) rfl fun ac hs => ?_))
            refine lstep (wpO_plain rfl (op_bin hs none (v := .int .i64 ((24 - (8 * k) : Nat) : Int)) rfl rfl rfl rfl (fun _ => rfl) (bin_subN (x := 24) (y := 8 * k) (z := 24 - (8 * k)) (by omega) (show 24 - (8 * k) < 9223372036854775808 by omega)) rfl fun ac hs => ?_))
            refine lstep (wpO_plain rfl (op_bin hs none (v := .int .u32 (((h1 i) / 2 ^ (24 - (8 * k)) : Nat) : Int)) rfl rfl rfl rfl (fun _ => rfl) (bin_shrN (x := h1 i) (y := 24 - (8 * k)) (z := (h1 i) / 2 ^ (24 - (8 * k))) rfl (show h1 i < 4294967296 from hh1 i)) rfl fun ac hs => ?_))
            refine lstep (wpO_plain rfl (op_convert hs none (v := .int .u8 (((h1 i) / 2 ^ (24 - (8 * k)) % 256 : Nat) : Int)) rfl rfl rfl (conv_M (z := (h1 i) / 2 ^ (24 - (8 * k)) % 256) rfl Try.underlying99 Try.underlying5 rfl) rfl fun ac hs => ?_))
            refine lstep (wpO_plain rfl (op_idxA hs none (j := 4 * i + k) rfl rfl rfl rfl Try.underlying89 Try.sizeOf5 (show 4 * i + k < 32 by omega) (off := 4 * i + k) (by omega) rfl fun ac hs => ?_))
            refine lstep (wpO_plain rfl (op_store hs 3 (vs := [.int .u8 (((h1 i) / 2 ^ (24 - (8 * k)) % 256 : Nat) : Int)]) rfl rfl rfl rfl rfl Try.sizeOf5 rfl rfl rfl (tab_le (j := 4 * i + k) (show 4 * i + k < 32 by omega)) (tab_set) fun w hs => ?_))
            refine wpList_nil ?_
            refine blk_n ?_
            refine then_n ?_
            replace hs : St 81 ⟨w0, [], [(true, .cel (.slice ar ((rst m).length) cr) ((rst m).length) (bcs (rst m)))], Z, X⟩ [(0, true, .pointer (some ⟨gh, 0, none⟩)), (2, true, .pointer (some ⟨g1, 0, none⟩)), (7, true, .pointer (some ⟨g25, 0, none⟩)), (8, true, .int .i64 ((i : Nat) : Int)), (9, true, .int .u32 ((h1 i : Nat) : Int)), (59, true, At .u32 8 h1), (60, true, .int .i64 ((i : Nat) : Int)), (64, true, .int .i64 ((k : Nat) : Int))] [(true, gh, 104, (tab .u32 8 (blks HH0 m) ++ ([.slice ar ((rst m).length) cr, .int .u64 ((m.length : Nat) : Int)] : List Value))), (true, g1, 89, (tab .u8 32 (fun _ => 0))), (true, g22, 101, (tab .u32 8 h1)), (true, g25, 89, (tab .u8 32 (upn (outT h1 (4 * i + k)) (4 * i + k) ((h1 i) / 2 ^ (24 - (8 * k)) % 256))))] ac _ := hs.re ⟨rfl, rfl, rfl, rfl, rfl, rfl, rfl, rfl, trivial⟩
            refine wp_region_lit ?_
            refine lstep (wpO_plain rfl (op_bin hs none (v := .int .i64 ((k + 1 : Nat) : Int)) rfl rfl rfl rfl (fun _ => rfl) (bin_addN (x := k) (y := 1) (z := k + 1) rfl (show k + 1 < 9223372036854775808 by omega)) rfl fun ac hs => ?_))
            refine lstep (wpO_plain rfl (op_move hs none rfl rfl rfl rfl fun ac hs => ?_))
            refine wpList_nil ?_
            refine then_n ?_
            replace hs := hs.setb 3 (cs' := (tab .u8 32 (outT h1 (4 * i + (k + 1))))) rfl (tab_ext fun j hj => outT_step (shaB_at hk4) j)
            exact ⟨_, ⟨(k + 1), rfl, (by omega), (hs.re (fs' := [(0, true, .pointer (some ⟨gh, 0, none⟩)), (2, true, .pointer (some ⟨g1, 0, none⟩)), (7, true, .pointer (some ⟨g25, 0, none⟩)), (8, true, .int .i64 ((i : Nat) : Int)), (9, true, .int .u32 ((h1 i : Nat) : Int)), (59, true, At .u32 8 h1), (60, true, .int .i64 ((i : Nat) : Int)), (64, true, .int .i64 (((k + 1) : Nat) : Int))]) ⟨rfl, rfl, rfl, rfl, rfl, rfl, rfl, rfl, trivial⟩)⟩, (by omega)⟩
          · skip
            have hp29 := of_decide_eq_false hc
            obtain rfl : k = 4 := by have := of_decide_eq_false hc; omega
            replace hs := hs.setb 3 (cs' := (tab .u8 32 (outT h1 (4 * (i + 1))))) rfl (by rw [show 4 * i + 4 = 4 * (i + 1) by omega])
            refine wp_exit ?_
            refine then_e ?_
            refine then_e ?_
            refine blk_e ?_
            refine blk_n ?_
            refine then_n ?_
            refine wp_region_lit ?_
            refine lstep (wpO_plain rfl (op_bin hs none (v := .int .i64 ((i + 1 : Nat) : Int)) rfl rfl rfl rfl (fun _ => rfl) (bin_addN (x := i) (y := 1) (z := i + 1) rfl (show i + 1 < 9223372036854775808 by omega)) rfl fun ac hs => ?_))
            refine lstep (wpO_plain rfl (op_move hs none rfl rfl rfl rfl fun ac hs => ?_))
            refine wpList_nil ?_
            refine then_n ?_
            exact ⟨_, ⟨(i + 1), rfl, (by omega), (hs.re (fs' := [(0, true, .pointer (some ⟨gh, 0, none⟩)), (2, true, .pointer (some ⟨g1, 0, none⟩)), (7, true, .pointer (some ⟨g25, 0, none⟩)), (59, true, At .u32 8 h1), (60, true, .int .i64 (((i + 1) : Nat) : Int))]) ⟨rfl, rfl, rfl, rfl, rfl, trivial⟩)⟩, (by omega)⟩
        · skip
          have hp30 := of_decide_eq_false hc
          obtain rfl : i = 8 := by have := of_decide_eq_false hc; omega
          replace hs := hs.setb 3 (cs' := (tab .u8 32 (shaB h1))) rfl (tab_ext fun j hj => outT_end hj)
          refine wp_exit ?_
          refine then_e ?_
          refine then_e ?_
          refine blk_e ?_
          refine then_n ?_
          refine wp_seq ?_
          refine wp_region_lit ?_
          refine lstep (wpO_plain rfl (op_load hs none 3 (v := At .u8 32 (shaB h1)) rfl rfl rfl rfl Try.isAgg89 Try.sizeOf89 ldv_tab rfl fun ac hs => ?_))
          refine lstep (wpO_plain rfl (op_store hs 1 (vs := (tab .u8 32 (shaB h1))) rfl rfl rfl rfl rfl Try.sizeOf89 (by kernel_rfl) tab_length' (tab_one _ _ _) tab_leA wr_tab fun w hs => ?_))
          refine wpList_nil ?_
          refine then_n ?_
          refine wp_ret ?_
          exact bodyPost_ret (res1 rfl (rv_c hs 1 (v := At .u8 32 (shaB h1)) rfl rfl Try.isAgg89 Try.sizeOf89 ldv_tab)) hs.defers ⟨(), by rw [show sha m = shaB h1 from by funext j; unfold sha; rw [hH]], ((hs.selS [0] rfl (by decide)).selB [0] rfl (by decide)).mem⟩
theorem sum_c (ad : Option Addr) (nl c : Nat) (l : List UInt8) (hlen : l.length ≤ 200000) (w0 : World) (Z : Nat → Prop) (hl : ByV w0 Z (.slice ad nl c) l): Calls Try.prog 55 #[.slice ad nl c] w0 fun e w' => Ret w0 Z (ρ := Unit) (fun r => At .u8 32 (sha l)) (fun r => []) e w' := by
  obtain rfl := byv_len hl
  refine enterS (n := 10) (args := [.slice ad l.length c]) (S := [(true, .cel (.slice ad l.length c) l.length (bcs l))]) (Z := Z) Try.func55 rfl rfl (Nat.le_of_ble_eq_true rfl) (sokC hl sok0) rfl fun ac hs => ?_
  refine wp_seq ?_
  refine wp_region_lit ?_
  refine lstep (wpO_plain rfl (op_alloc hs none none (cs := (tab .u8 32 (fun _ => 0))) rfl rfl Try.zeroValue89 (by kernel_rfl) rfl rfl fun g1 ac w hs => ?_))
  refine wpList_nil ?_
  refine then_n ?_
  refine wp_seq ?_
  refine wp_region_lit ?_
  refine lstep (wpO_plain rfl (op_callX (F := 68) (ρ := Nat) hs none none [] [] (v := fun r => .pointer (some ⟨r, 0, none⟩)) (S1 := []) (bs1 := []) (E := fun r => []) (E1 := fun r => []) (E2 := fun r => []) (bfA := fun r => [(true, r, 104, (tab .u32 8 HH0 ++ ([.slice none 0 0, .int .u64 0] : List Value)))]) (bf := fun r => []) (bf2 := fun r => [(true, r, 104, (tab .u32 8 HH0 ++ ([.slice none 0 0, .int .u64 0] : List Value)))]) rfl rfl rfl rfl rfl (Try.call68 _) rfl rfl (by decide) (by decide) (fun Z X hm => new_c _ _ _ hm) (fun _ => rfl) (fun _ => rfl) (fun _ => rfl) (fun _ => rfl) (fun _ => rfl) rfl fun g2 ac w hs => ?_))
  refine lstep (wpO_plain rfl (op_assign hs none rfl rfl rfl rfl fun ac hs => ?_))
  refine wpList_nil ?_
  refine then_n ?_
  refine wp_seq ?_
  refine wp_region_lit ?_
  refine lstep (wpO_plain rfl (op_move hs none rfl rfl rfl rfl fun ac hs => ?_))
  refine lstep (wpO_plain rfl (op_move hs none rfl rfl rfl rfl fun ac hs => ?_))
  replace hs := hs.nilCel none rfl
  replace hs := hs.setb 1 (cs' := (tab .u32 8 (blks HH0 []) ++ ([.slice none ((rst []).length) 0, .int .u64 ((([] : List UInt8).length : Nat) : Int)] : List Value))) rfl hash0
  replace hs := hs.celEq 1 (N' := (rst []).length) (cs' := bcs (rst [])) rfl rst0.1 rst0.2
  refine lstep (wpO_plain rfl (op_callX (F := 69) (ρ := Option Addr × Nat) hs none none [1] [1, 0] (v := fun r => .tuple #[]) (S1 := [(true, .cel (.slice none ((rst []).length) 0) ((rst []).length) (bcs (rst []))), (true, .cel (.slice ad l.length c) l.length (bcs l))]) (bs1 := [(true, g2, 104, (tab .u32 8 (blks HH0 []) ++ ([.slice none ((rst []).length) 0, .int .u64 ((([] : List UInt8).length : Nat) : Int)] : List Value)))]) (E := fun r => [(true, .cel (.slice r.1 ((rst l).length) r.2) ((rst l).length) (bcs (rst l))), (true, .cel (.slice ad l.length c) l.length (bcs l))]) (E1 := fun r => [(true, .cel (.slice r.1 ((rst l).length) r.2) ((rst l).length) (bcs (rst l))), (true, .cel (.slice ad l.length c) l.length (bcs l))]) (E2 := fun r => []) (bfA := fun r => [(true, g2, 104, (tab .u32 8 (blks HH0 l) ++ ([.slice r.1 ((rst l).length) r.2, .int .u64 (((l).length : Nat) : Int)] : List Value)))]) (bf := fun r => [(true, g2, 104, (tab .u32 8 (blks HH0 l) ++ ([.slice r.1 ((rst l).length) r.2, .int .u64 (((l).length : Nat) : Int)] : List Value)))]) (bf2 := fun r => []) rfl rfl rfl rfl rfl (Try.call69 _) rfl rfl (by decide) (by decide) (fun Z X hm => write_c g2 none 0 ([]) ad c l (show ([]).length + l.length ≤ 900000 by first | omega | ((try simp only [List.length_drop, List.length_take, List.length_append, List.length_cons, List.length_nil]); omega)) _ _ _ hm) (fun _ => rfl) (fun _ => rfl) (fun _ => rfl) (fun _ => rfl) (fun _ => rfl) rfl fun ⟨ad3, cp4⟩ ac w hs => ?_))
  refine wpList_nil ?_
  refine then_n ?_
  refine wp_seq ?_
  replace hs : St 10 ⟨w0, [], [(true, .cel (.slice ad l.length c) l.length (bcs l)), (true, .cel (.slice ad3 ((rst l).length) cp4) ((rst l).length) (bcs (rst l)))], Z, noX⟩ [(2, true, .pointer (some ⟨g1, 0, none⟩)), (3, true, .pointer (some ⟨g2, 0, none⟩))] [(true, g1, 89, (tab .u8 32 (fun _ => 0))), (true, g2, 104, (tab .u32 8 (blks HH0 l) ++ ([.slice ad3 ((rst l).length) cp4, .int .u64 (((l).length : Nat) : Int)] : List Value)))] ac _ := hs.re ⟨rfl, rfl, trivial⟩
  refine wp_region_lit ?_
  refine lstep (wpO_plain rfl (op_move hs none rfl rfl rfl rfl fun ac hs => ?_))
  refine lstep (wpO_plain rfl (op_callX (F := 70) (ρ := Unit) hs none none [1] [1] (v := fun r => At .u8 32 (sha l)) (S1 := [(true, .cel (.slice ad3 ((rst l).length) cp4) ((rst l).length) (bcs (rst l)))]) (bs1 := [(true, g2, 104, (tab .u32 8 (blks HH0 l) ++ ([.slice ad3 ((rst l).length) cp4, .int .u64 (((l).length : Nat) : Int)] : List Value)))]) (E := fun r => [(true, .cel (.slice ad3 ((rst l).length) cp4) ((rst l).length) (bcs (rst l)))]) (E1 := fun r => [(true, .cel (.slice ad3 ((rst l).length) cp4) ((rst l).length) (bcs (rst l)))]) (E2 := fun r => []) (bfA := fun r => [(true, g2, 104, (tab .u32 8 (blks HH0 l) ++ ([.slice ad3 ((rst l).length) cp4, .int .u64 (((l).length : Nat) : Int)] : List Value)))]) (bf := fun r => [(true, g2, 104, (tab .u32 8 (blks HH0 l) ++ ([.slice ad3 ((rst l).length) cp4, .int .u64 (((l).length : Nat) : Int)] : List Value)))]) (bf2 := fun r => []) rfl rfl rfl rfl rfl (Try.call70 _) rfl rfl (by decide) (by decide) (fun Z X hm => hsum_c g2 ad3 cp4 l (show l.length ≤ 900000 by omega) _ _ _ hm) (fun _ => rfl) (fun _ => rfl) (fun _ => rfl) (fun _ => rfl) (fun _ => rfl) rfl fun _ ac w hs => ?_))
  refine lstep (wpO_plain rfl (op_store hs 0 (vs := (tab .u8 32 (sha l))) rfl rfl rfl rfl rfl Try.sizeOf89 (by kernel_rfl) tab_length' (tab_one _ _ _) tab_leA wr_tab fun w hs => ?_))
  refine wpList_nil ?_
  refine then_n ?_
  refine wp_ret ?_
  exact bodyPost_ret (res1 rfl (rv_c hs 0 (v := At .u8 32 (sha l)) rfl rfl Try.isAgg89 Try.sizeOf89 ldv_tab)) hs.defers ⟨(), rfl, hs.bel rfl, okl0⟩
theorem double_c (ad : Option Addr) (nl c : Nat) (l : List UInt8) (hlen : l.length ≤ 200000) (w0 : World) (Z : Nat → Prop) (hl : ByV w0 Z (.slice ad nl c) l): Calls Try.prog 56 #[.slice ad nl c] w0 fun e w' => Ret w0 Z (ρ := Unit) (fun r => At .u8 32 (dbl l)) (fun r => []) e w' := by
  obtain rfl := byv_len hl
  have hb32 := btl_len 32 (sha l)
  refine enterS (n := 8) (args := [.slice ad l.length c]) (S := [(true, .cel (.slice ad l.length c) l.length (bcs l))]) (Z := Z) Try.func56 rfl rfl (Nat.le_of_ble_eq_true rfl) (sokC hl sok0) rfl fun ac hs => ?_
  refine wp_seq ?_
  refine wp_region_lit ?_
  refine lstep (wpO_plain rfl (op_alloc hs none none (cs := (tab .u8 32 (fun _ => 0))) rfl rfl Try.zeroValue89 (by kernel_rfl) rfl rfl fun g1 ac w hs => ?_))
  refine wpList_nil ?_
  refine then_n ?_
  refine wp_seq ?_
  refine wp_region_lit ?_
  refine lstep (wpO_plain rfl (op_move hs none rfl rfl rfl rfl fun ac hs => ?_))
  refine lstep (wpO_plain rfl (op_callS (F := 55) (ρ := Unit) hs none none (v := fun r => At .u8 32 (sha l)) (E := fun r => []) (j := 0) rfl rfl rfl rfl (Try.call55 _) (fun hs => sum_c ad l.length c l (show l.length ≤ 200000 by omega) _ _ (hs.all (k := 0) rfl rfl)) (fun _ => rfl) rfl rfl fun _ ac w hs => ?_))
  refine lstep (wpO_plain rfl (op_alloc hs none none (cs := (tab .u8 32 (fun _ => 0))) rfl rfl Try.zeroValue89 (by kernel_rfl) rfl rfl fun g2 ac w hs => ?_))
  refine lstep (wpO_plain rfl (op_store hs 1 (vs := (tab .u8 32 (sha l))) rfl rfl rfl rfl rfl Try.sizeOf89 (by kernel_rfl) tab_length' (tab_one _ _ _) tab_leA wr_tab fun w hs => ?_))
  refine wpList_nil ?_
  refine then_n ?_
  refine wp_seq ?_
  refine wp_region_lit ?_
  replace hs := hs.arrCel none 1 (n0 := 32) (f := sha l) rfl (fun j hj => sha_lt l j) (by decide) rfl
  replace hs := hs.selB [0] rfl (by decide)
  refine lstep (wpO_plain rfl (op_val hs none (v := .slice (some ⟨g2, 0, none⟩) 32 32) rfl rfl (run_slA rfl (hs.ev rfl) Try.underlying89 Try.sizeOf5) fun ac hs => ?_))
  refine lstep (wpO_plain rfl (op_callS (F := 55) (ρ := Unit) hs none none (v := fun r => At .u8 32 (sha (btl 32 (sha l)))) (E := fun r => []) (j := 0) rfl rfl rfl rfl (Try.call55 _) (fun hs => sum_c (some ⟨g2, 0, none⟩) 32 32 (btl 32 (sha l)) (show (btl 32 (sha l)).length ≤ 200000 by omega) _ _ (hs.all (k := 1) rfl rfl)) (fun _ => rfl) rfl rfl fun _ ac w hs => ?_))
  refine lstep (wpO_plain rfl (op_store hs 0 (vs := (tab .u8 32 (sha (btl 32 (sha l))))) rfl rfl rfl rfl rfl Try.sizeOf89 (by kernel_rfl) tab_length' (tab_one _ _ _) tab_leA wr_tab fun w hs => ?_))
  refine wpList_nil ?_
  refine then_n ?_
  refine wp_ret ?_
  exact bodyPost_ret (res1 rfl (rv_c hs 0 (v := At .u8 32 (sha (btl 32 (sha l)))) rfl rfl Try.isAgg89 Try.sizeOf89 ldv_tab)) hs.defers ⟨(), rfl, hs.bel rfl, okl0⟩
end Go.Proofs.Ytikkhkjndbicgaa
