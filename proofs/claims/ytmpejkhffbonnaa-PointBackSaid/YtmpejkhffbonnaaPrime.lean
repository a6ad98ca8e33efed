/- Plain number theory: permuted lists, primes, Fermat, Pocklington's test; the prime of the field and the order are primes. No program here. -/
namespace Go.Proofs.Ytmpejkhffbonnaa.EM


theorem perm_of_nodup {α : Type} [DecidableEq α] : ∀ (l1 l2 : List α), l1.Nodup → (∀ a ∈ l1, a ∈ l2) → l2.length ≤ l1.length → l1.Perm l2 := by
  intro l1
  induction l1 with
  | nil =>
    intro l2 _ _ hl
    have : l2 = [] := by cases l2 <;> simp_all
    subst this
    exact List.Perm.refl _
  | cons a t ih =>
    intro l2 hn hs hl
    have ha : a ∈ l2 := hs a (by simp)
    rw [List.nodup_cons] at hn
    have h1 : t.Perm (l2.erase a) := by
      refine ih _ hn.2 (fun b hb => ?_) ?_
      · have hne : b ≠ a := by
          rintro rfl
          exact hn.1 hb
        exact (List.mem_erase_of_ne hne).2 (hs b (by simp [hb]))
      · rw [List.length_erase_of_mem ha]
        simp at hl
        omega
    exact (List.Perm.cons a h1).trans (List.perm_cons_erase ha).symm

theorem map_perm {α : Type} [DecidableEq α] (l : List α) (f : α → α) (hn : l.Nodup) (hm : ∀ a ∈ l, f a ∈ l) (hi : ∀ a ∈ l, ∀ b ∈ l, f a = f b → a = b) : (l.map f).Perm l := by
  refine perm_of_nodup _ _ ?_ ?_ (by simp)
  · unfold List.Nodup at *
    rw [List.pairwise_map]
    refine hn.imp_of_mem ?_
    intro a b ha hb hne he
    exact hne (hi a ha b hb he)
  · intro b hb
    rw [List.mem_map] at hb
    obtain ⟨a, ha, rfl⟩ := hb
    exact hm a ha

/-- a prime -/
def Pr (p : Nat) : Prop := 2 ≤ p ∧ ∀ m, m ∣ p → m = 1 ∨ m = p

theorem Pr.euclid {p a b : Nat} (h : Pr p) (hd : p ∣ a * b) : p ∣ a ∨ p ∣ b := by
  rcases h.2 (Nat.gcd p a) (Nat.gcd_dvd_left p a) with hg | hg
  · right
    exact Nat.Coprime.dvd_of_dvd_mul_left hg hd
  · left
    rw [← hg]
    exact Nat.gcd_dvd_right p a

theorem exists_least_divisor (n : Nat) (hn : 2 ≤ n) (hnp : ¬ Pr n) : ∃ r, Pr r ∧ r ∣ n ∧ r * r ≤ n := by
  have hex : ∃ m, m ∣ n ∧ m ≠ 1 ∧ m ≠ n := by
    refine Classical.byContradiction fun hc => hnp ⟨hn, fun m hm => ?_⟩
    by_cases h1 : m = 1
    · exact .inl h1
    · by_cases h2 : m = n
      · exact .inr h2
      · exact absurd ⟨m, hm, h1, h2⟩ hc
  obtain ⟨m, hm, h1, h2⟩ := hex
  have key : ∀ k m, m ≤ k → m ∣ n → m ≠ 1 → m ≠ n → ∃ r, Pr r ∧ r ∣ n ∧ r * r ≤ n := by
    intro k
    induction k with
    | zero =>
      intro m hk hd _ _
      have : m = 0 := by omega
      subst this
      have := Nat.eq_zero_of_zero_dvd hd
      omega
    | succ k ih =>
      intro m hk hd h1 h2
      obtain ⟨c, hc⟩ := hd
      have hm0 : m ≠ 0 := by
        rintro rfl
        simp at hc
        omega
      have hc1 : c ≠ 1 := by
        rintro rfl
        simp at hc
        exact h2 hc.symm
      have hcn : c ≠ n := by
        rintro rfl
        have : m * c = 1 * c := by omega
        exact h1 (Nat.eq_of_mul_eq_mul_right (by omega) this)
      by_cases hlt : c < m
      · exact ih c (by omega) ⟨m, by rw [Nat.mul_comm]; exact hc⟩ hc1 hcn
      · by_cases hp : Pr m
        · exact ⟨m, hp, ⟨c, hc⟩, by rw [hc]; exact Nat.mul_le_mul_left m (by omega)⟩
        · have : ∃ d, d ∣ m ∧ d ≠ 1 ∧ d ≠ m := by
            refine Classical.byContradiction fun hx => hp ⟨by omega, fun d hd => ?_⟩
            by_cases e1 : d = 1
            · exact .inl e1
            · by_cases e2 : d = m
              · exact .inr e2
              · exact absurd ⟨d, hd, e1, e2⟩ hx
          obtain ⟨d, hd, e1, e2⟩ := this
          have hdm : d ≤ m := Nat.le_of_dvd (by omega) hd
          have hdn : d ∣ n := Nat.dvd_trans hd ⟨c, hc⟩
          have hmn : m ≤ n := Nat.le_of_dvd (by omega) ⟨c, hc⟩
          exact ih d (by omega) hdn e1 (by omega)
  exact key m m (Nat.le_refl _) hm h1 h2

/-! ### powers in Fin p -/
section
variable {p : Nat} [NeZero p]

def fpow (a : Fin p) : Nat → Fin p
  | 0 => 1
  | k + 1 => fpow a k * a

theorem val1 : ((1 : Fin p)).val = 1 % p := rfl
theorem val0 : ((0 : Fin p)).val = 0 := by
  show 0 % p = 0
  exact Nat.zero_mod _

theorem fpow_val (a : Fin p) (k : Nat) : (fpow a k).val = a.val ^ k % p := by
  induction k with
  | zero => simp [fpow, val1]
  | succ k ih => rw [fpow, Fin.val_mul, ih, Nat.pow_succ, Nat.mod_mul_mod]

theorem fmul_comm (a b : Fin p) : a * b = b * a := by grind
theorem fmul_assoc (a b c : Fin p) : a * b * c = a * (b * c) := by grind
theorem fone_mul (a : Fin p) : 1 * a = a := by grind
theorem fmul_one (a : Fin p) : a * 1 = a := by grind

theorem fpow_add (a : Fin p) (j k : Nat) : fpow a (j + k) = fpow a j * fpow a k := by
  induction k with
  | zero => simp only [fpow, Nat.add_zero]; grind
  | succ k ih => rw [← Nat.add_assoc, fpow, ih, fpow]; grind

theorem fpow_mul (a : Fin p) (j k : Nat) : fpow a (j * k) = fpow (fpow a j) k := by
  induction k with
  | zero => simp [fpow]
  | succ k ih => rw [Nat.mul_succ, fpow_add, ih, fpow]

theorem fpow_prod (a b : Fin p) (k : Nat) : fpow (a * b) k = fpow a k * fpow b k := by
  induction k with
  | zero => simp only [fpow]; grind
  | succ k ih => rw [fpow, ih, fpow, fpow]; grind

theorem fpow_one (k : Nat) : fpow (1 : Fin p) k = 1 := by
  induction k with
  | zero => rfl
  | succ k ih => rw [fpow, ih]; grind

theorem fmul_zero_of (h : Pr p) (a b : Fin p) (hab : a * b = 0) : a = 0 ∨ b = 0 := by
  have h1 : a.val * b.val % p = 0 := by
    have := congrArg Fin.val hab
    rw [Fin.val_mul] at this
    simpa using this
  rcases h.euclid (Nat.dvd_of_mod_eq_zero h1) with h2 | h2
  · left
    apply Fin.ext
    have := Nat.eq_zero_of_dvd_of_lt h2 a.isLt
    simpa using this
  · right
    apply Fin.ext
    have := Nat.eq_zero_of_dvd_of_lt h2 b.isLt
    simpa using this

def lprod : List (Fin p) → Fin p
  | [] => 1
  | a :: l => a * lprod l

theorem lprod_perm {l1 l2 : List (Fin p)} (h : l1.Perm l2) : lprod l1 = lprod l2 := by
  induction h with
  | nil => rfl
  | cons x _ ih => simp only [lprod, ih]
  | swap x y l => simp only [lprod]; grind
  | trans _ _ ih1 ih2 => rw [ih1, ih2]

theorem lprod_map (a : Fin p) (l : List (Fin p)) : lprod (l.map (a * ·)) = fpow a l.length * lprod l := by
  induction l with
  | nil => simp only [lprod, List.map, List.length, fpow]; grind
  | cons b l ih => simp only [lprod, List.map, List.length, fpow, ih]; grind

theorem lprod_ne (h : Pr p) (l : List (Fin p)) (hl : ∀ a ∈ l, a ≠ 0) : lprod l ≠ 0 := by
  induction l with
  | nil =>
    intro h0
    have := congrArg Fin.val h0
    simp only [lprod, val1, val0] at this
    have h2 := h.1
    rw [Nat.mod_eq_of_lt (by omega)] at this
    omega
  | cons a l ih =>
    intro h0
    rcases fmul_zero_of h _ _ h0 with h1 | h1
    · exact hl a (by simp) h1
    · exact ih (fun b hb => hl b (by simp [hb])) h1

/-- the elements but 0 -/
def units (p : Nat) [NeZero p] : List (Fin p) := (List.finRange p).filter (· ≠ 0)

theorem mem_units (a : Fin p) : a ∈ units p ↔ a ≠ 0 := by
  simp [units]

theorem nodup_units : (units p).Nodup := by
  unfold units
  exact List.Pairwise.filter _ (List.nodup_finRange p)

theorem length_units : (units p).length = p - 1 := by
  have h0 : (0 : Fin p) ∈ List.finRange p := List.mem_finRange _
  have h1 : (0 :: units p).Perm (List.finRange p) := by
    have hcov : ∀ a ∈ List.finRange p, a ∈ (0 :: units p) := fun a _ => by
      by_cases h : a = 0
      · simp [h]
      · simp [mem_units, h]
    refine (perm_of_nodup _ _ (List.nodup_finRange p) hcov ?_).symm
    have hp : (0 :: units p).Nodup := by
      rw [List.nodup_cons]
      exact ⟨by simp [mem_units], nodup_units⟩
    exact hp.length_le_of_subset (fun a _ => List.mem_finRange a)
  have := h1.length_eq
  simp at this
  omega

theorem fermat (h : Pr p) (a : Fin p) (ha : a ≠ 0) : fpow a (p - 1) = 1 := by
  have hperm : ((units p).map (a * ·)).Perm (units p) := by
    refine map_perm _ _ nodup_units ?_ ?_
    · intro b hb
      rw [mem_units] at *
      intro h0
      rcases fmul_zero_of h _ _ h0 with h1 | h1
      · exact ha h1
      · exact hb h1
    · intro b _ c _ hbc
      have hz : a * (b - c) = 0 := by grind
      rcases fmul_zero_of h _ _ hz with h1 | h1
      · exact absurd h1 ha
      · grind
  have h1 := lprod_perm hperm
  rw [lprod_map, length_units] at h1
  have h2 : (fpow a (p - 1) - 1) * lprod (units p) = 0 := by grind
  rcases fmul_zero_of h _ _ h2 with h3 | h3
  · grind
  · exact absurd h3 (lprod_ne h _ fun b hb => (mem_units b).1 hb)

theorem fpow_gcd (b : Fin p) : ∀ m k, fpow b m = 1 → fpow b k = 1 → fpow b (Nat.gcd m k) = 1 := by
  intro m k
  induction m, k using Nat.gcd.induction with
  | H0 k => intro _ hk; simpa using hk
  | H1 m k hm ih =>
    intro h1 h2
    rw [Nat.gcd_rec]
    refine ih ?_ h1
    have hk : fpow b (m * (k / m) + k % m) = 1 := by rw [Nat.div_add_mod]; exact h2
    rw [fpow_add, fpow_mul, h1, fpow_one] at hk
    grind
end

/-- q is a prime, b to the q is 1 and b is not: q divides r - 1 -/
theorem order_dvd {r q : Nat} [NeZero r] (hr : Pr r) (hq : Pr q) (b : Fin r) (hb0 : b ≠ 0) (hb1 : b ≠ 1) (hb : fpow b q = 1) : q ∣ r - 1 := by
  have h := fpow_gcd b q (r - 1) hb (fermat hr b hb0)
  rcases hq.2 _ (Nat.gcd_dvd_left q (r - 1)) with hg | hg
  · rw [hg] at h
    simp only [fpow] at h
    exact absurd (by grind) hb1
  · rw [← hg]
    exact Nat.gcd_dvd_right _ _

/-- a power modulo n, by halving -/
def mp (n : Nat) : Nat → Nat → Nat → Nat
  | 0, _, _ => 1 % n
  | f + 1, b, e => if e = 0 then 1 % n else if e % 2 = 1 then mp n f (b * b % n) (e / 2) * b % n else mp n f (b * b % n) (e / 2)

theorem mp_eq (n : Nat) : ∀ f b e, e < 2 ^ f → mp n f b e = b ^ e % n := by
  intro f
  induction f with
  | zero =>
    intro b e he
    have : e = 0 := by simpa using he
    subst this
    simp [mp]
  | succ f ih =>
    intro b e he
    rw [mp]
    by_cases h0 : e = 0
    · simp [h0]
    · rw [if_neg h0]
      have he2 : e / 2 < 2 ^ f := by rw [Nat.pow_succ] at he; omega
      have hs : b ^ e = (b * b) ^ (e / 2) * b ^ (e % 2) := by
        rw [← Nat.pow_two, ← Nat.pow_mul, ← Nat.pow_add, Nat.div_add_mod]
      rw [ih _ _ he2, ← Nat.pow_mod, hs]
      by_cases h1 : e % 2 = 1
      · rw [if_pos h1, h1, Nat.mod_mul_mod, Nat.pow_one]
      · rw [if_neg h1]
        have : e % 2 = 0 := by omega
        rw [this, Nat.pow_zero, Nat.mul_one]

/-- for a prime divisor r of n: q divides r - 1 -/
theorem pock_dvd {n q R a : Nat} (hn : n = q * R + 1) (hq : Pr q) (h1 : a ^ (n - 1) % n = 1) (h2 : Nat.gcd (a ^ R % n + (n - 1)) n = 1) {r : Nat} (hr : Pr r) (hd : r ∣ n) : q ∣ r - 1 := by
  have hr2 := hr.1
  haveI : NeZero r := ⟨by omega⟩
  have hmod : ∀ x : Nat, x % n % r = x % r := fun x => Nat.mod_mod_of_dvd x hd
  let b : Fin r := Fin.ofNat r (a ^ R)
  have hbv : b.val = a ^ R % r := rfl
  have hnr : n - 1 = R * q := by rw [hn, Nat.mul_comm]; simp
  have hone : fpow b q = 1 := by
    apply Fin.ext
    rw [fpow_val, hbv, ← Nat.pow_mod, ← Nat.pow_mul, ← hnr, val1, ← hmod, h1]
  have hne1 : b ≠ 1 := by
    intro he
    have hv : a ^ R % r = 1 % r := by
      have := congrArg Fin.val he
      rwa [hbv, val1] at this
    have hdv : r ∣ a ^ R % n + (n - 1) := by
      apply Nat.dvd_of_mod_eq_zero
      rw [Nat.add_mod, hmod, hv, ← Nat.add_mod]
      have h1n : 1 + (n - 1) = n := by rw [hn]; omega
      rw [h1n]
      exact Nat.mod_eq_zero_of_dvd hd
    have := Nat.dvd_gcd hdv hd
    rw [h2] at this
    have := Nat.le_of_dvd (by omega) this
    omega
  have hne0 : b ≠ 0 := by
    intro he
    have hq1 := hq.1
    obtain ⟨k, rfl⟩ : ∃ k, q = k + 1 := ⟨q - 1, by omega⟩
    rw [fpow, he] at hone
    have h3 : (1 : Fin r) = 0 := by rw [← hone]; grind
    have := congrArg Fin.val h3
    rw [val1, val0, Nat.mod_eq_of_lt (by omega)] at this
    omega
  exact order_dvd hr hq b hne0 hne1 hone

theorem pock {n q R a : Nat} (hn : n = q * R + 1) (hn2 : 2 ≤ n) (hq : Pr q) (h1 : a ^ (n - 1) % n = 1) (h2 : Nat.gcd (a ^ R % n + (n - 1)) n = 1) (hlt : n < q * q) : Pr n := by
  refine Classical.byContradiction fun hnp => ?_
  obtain ⟨r, hr, hd, hle⟩ := exists_least_divisor n hn2 hnp
  have h3 := pock_dvd hn hq h1 h2 hr hd
  have hr2 := hr.1
  have h4 : q ≤ r - 1 := Nat.le_of_dvd (by omega) h3
  have h5 : q * q ≤ r * r := Nat.mul_le_mul (by omega) (by omega)
  omega

theorem pock2 {n q R a q' R' a' : Nat} (hn2 : 2 ≤ n) (hn : n = q * R + 1) (hq : Pr q) (h1 : a ^ (n - 1) % n = 1) (h2 : Nat.gcd (a ^ R % n + (n - 1)) n = 1)
    (hn' : n = q' * R' + 1) (hq' : Pr q') (h1' : a' ^ (n - 1) % n = 1) (h2' : Nat.gcd (a' ^ R' % n + (n - 1)) n = 1) (hc : Nat.gcd q q' = 1) (hlt : n < (q * q') * (q * q')) : Pr n := by
  refine Classical.byContradiction fun hnp => ?_
  obtain ⟨r, hr, hd, hle⟩ := exists_least_divisor n hn2 hnp
  have h3 := pock_dvd hn hq h1 h2 hr hd
  have h3' := pock_dvd hn' hq' h1' h2' hr hd
  have h6 : q * q' ∣ r - 1 := Nat.Coprime.mul_dvd_of_dvd_of_dvd hc h3 h3'
  have hr2 := hr.1
  have h4 : q * q' ≤ r - 1 := Nat.le_of_dvd (by omega) h6
  have h5 : (q * q') * (q * q') ≤ r * r := Nat.mul_le_mul (by omega) (by omega)
  omega

/-- small primes, by trial -/
def trial (n : Nat) : Nat → Bool
  | 0 => true
  | k + 1 => (n % (k + 2) != 0) && trial n k

theorem trial_sound (n : Nat) : ∀ k, trial n k = true → ∀ m, 2 ≤ m → m ≤ k + 1 → ¬ m ∣ n := by
  intro k
  induction k with
  | zero => intro _ m h1 h2; omega
  | succ k ih =>
    intro h m h1 h2 hd
    simp only [trial, Bool.and_eq_true, bne_iff_ne, ne_eq] at h
    by_cases hm : m = k + 2
    · subst hm
      exact h.1 (Nat.mod_eq_zero_of_dvd hd)
    · exact ih h.2 m h1 (by omega) hd

theorem prime_trial (n k : Nat) (hn : 2 ≤ n) (hk : n < (k + 2) * (k + 2)) (h : trial n k = true) : Pr n := by
  refine Classical.byContradiction fun hnp => ?_
  obtain ⟨r, hr, hd, hle⟩ := exists_least_divisor n hn hnp
  refine trial_sound n k h r hr.1 ?_ hd
  refine Classical.byContradiction fun hlt => ?_
  have : (k + 2) * (k + 2) ≤ r * r := Nat.mul_le_mul (by omega) (by omega)
  omega


theorem pock3 {n q R a q' R' a' p S e : Nat} (hn2 : 2 ≤ n) (hn : n = q * R + 1) (hq : Pr q) (h1 : a ^ (n - 1) % n = 1) (h2 : Nat.gcd (a ^ R % n + (n - 1)) n = 1)
    (hn' : n = q' * R' + 1) (hq' : Pr q') (h1' : a' ^ (n - 1) % n = 1) (h2' : Nat.gcd (a' ^ R' % n + (n - 1)) n = 1)
    (hnp : n = p * S + 1) (hp : Pr p) (h3 : e ^ (n - 1) % n = 1) (h4 : Nat.gcd (e ^ S % n + (n - 1)) n = 1) (hc : Nat.gcd q q' = 1) (hc' : Nat.gcd (q * q') p = 1) (hlt : n < (q * q' * p) * (q * q' * p)) : Pr n := by
  refine Classical.byContradiction fun hnp' => ?_
  obtain ⟨r, hr, hd, hle⟩ := exists_least_divisor n hn2 hnp'
  have e1 := pock_dvd hn hq h1 h2 hr hd
  have e2 := pock_dvd hn' hq' h1' h2' hr hd
  have e3 := pock_dvd hnp hp h3 h4 hr hd
  have e4 : q * q' ∣ r - 1 := Nat.Coprime.mul_dvd_of_dvd_of_dvd hc e1 e2
  have e5 : q * q' * p ∣ r - 1 := Nat.Coprime.mul_dvd_of_dvd_of_dvd hc' e4 e3
  have hr2 := hr.1
  have h4 : q * q' * p ≤ r - 1 := Nat.le_of_dvd (by omega) e5
  have h5 : (q * q' * p) * (q * q' * p) ≤ r * r := Nat.mul_le_mul (by omega) (by omega)
  omega
/-- what is to be reckoned for one divisor -/
def pok (n q R a : Nat) : Bool := Nat.beq n (q * R + 1) && (Nat.beq (mp n 256 a (n - 1)) 1 && Nat.beq (Nat.gcd (mp n 256 a R + (n - 1)) n) 1)
theorem pok_sound {n q R a : Nat} (hb : n < 2 ^ 256) (hR : R < 2 ^ 256) (h : pok n q R a = true) : n = q * R + 1 ∧ a ^ (n - 1) % n = 1 ∧ Nat.gcd (a ^ R % n + (n - 1)) n = 1 := by
  unfold pok at h
  simp only [Bool.and_eq_true] at h
  have h2 := Nat.eq_of_beq_eq_true h.2.1
  have h3 := Nat.eq_of_beq_eq_true h.2.2
  rw [mp_eq n 256 a (n - 1) (by omega)] at h2
  rw [mp_eq n 256 a R hR] at h3
  exact ⟨Nat.eq_of_beq_eq_true h.1, h2, h3⟩
theorem pockc1 {n q0 R0 a0 : Nat} (hq0 : Pr q0) (h : (pok n q0 R0 a0 && (Nat.blt n (2 ^ 256) && (Nat.blt R0 (2 ^ 256) && (Nat.ble 2 n && Nat.blt n (q0 * q0))))) = true) : Pr n := by
  simp only [Bool.and_eq_true, Nat.blt_eq, Nat.ble_eq] at h
  obtain ⟨h0, hb, hR, h2, hlt⟩ := h
  obtain ⟨e0, e1, e2⟩ := pok_sound hb hR h0
  exact pock e0 h2 hq0 e1 e2 hlt
theorem pockc2 {n q0 R0 a0 q1 R1 a1 : Nat} (hq0 : Pr q0) (hq1 : Pr q1) (h : (pok n q0 R0 a0 && (pok n q1 R1 a1 && (Nat.blt n (2 ^ 256) && (Nat.blt R0 (2 ^ 256) && (Nat.blt R1 (2 ^ 256) && (Nat.ble 2 n && (Nat.beq (Nat.gcd q0 q1) 1 && Nat.blt n (q0 * q1 * (q0 * q1))))))))) = true) : Pr n := by
  simp only [Bool.and_eq_true, Nat.blt_eq, Nat.ble_eq] at h
  obtain ⟨h0, h1, hb, hR, hR1, h2, hc, hlt⟩ := h
  obtain ⟨e0, e1, e2⟩ := pok_sound hb hR h0
  obtain ⟨f0, f1, f2⟩ := pok_sound hb hR1 h1
  exact pock2 h2 e0 hq0 e1 e2 f0 hq1 f1 f2 (Nat.eq_of_beq_eq_true hc) hlt
theorem pockc3 {n q0 R0 a0 q1 R1 a1 q2 R2 a2 : Nat} (hq0 : Pr q0) (hq1 : Pr q1) (hq2 : Pr q2) (h : (pok n q0 R0 a0 && (pok n q1 R1 a1 && (pok n q2 R2 a2 && (Nat.blt n (2 ^ 256) && (Nat.blt R0 (2 ^ 256) && (Nat.blt R1 (2 ^ 256) && (Nat.blt R2 (2 ^ 256) && (Nat.ble 2 n && (Nat.beq (Nat.gcd q0 q1) 1 && (Nat.beq (Nat.gcd (q0 * q1) q2) 1 && Nat.blt n (q0 * q1 * q2 * (q0 * q1 * q2)))))))))))) = true) : Pr n := by
  simp only [Bool.and_eq_true, Nat.blt_eq, Nat.ble_eq] at h
  obtain ⟨h0, h1, h1', hb, hR, hR1, hR2, h2, hc, hc', hlt⟩ := h
  obtain ⟨e0, e1, e2⟩ := pok_sound hb hR h0
  obtain ⟨f0, f1, f2⟩ := pok_sound hb hR1 h1
  obtain ⟨g0, g1, g2⟩ := pok_sound hb hR2 h1'
  exact pock3 h2 e0 hq0 e1 e2 f0 hq1 f1 f2 g0 hq2 g1 g2 (Nat.eq_of_beq_eq_true hc) (Nat.eq_of_beq_eq_true hc') hlt
theorem pr_53 : Pr 53 := prime_trial 53 7 (by decide) (by decide) (by decide +kernel)
theorem pr_29 : Pr 29 := prime_trial 29 5 (by decide) (by decide) (by decide +kernel)
theorem pr_7 : Pr 7 := prime_trial 7 2 (by decide) (by decide) (by decide +kernel)
theorem pr_b3 : Pr 107590001 := pockc3 (q0 := 53) (R0 := 2030000) (a0 := 2) (q1 := 29) (R1 := 3710000) (a1 := 2) (q2 := 7) (R2 := 15370000) (a2 := 2) pr_53 pr_29 pr_7 (by decide +kernel)
theorem pr_419 : Pr 419 := prime_trial 419 20 (by decide) (by decide) (by decide +kernel)
theorem pr_20113 : Pr 20113 := pockc1 (q0 := 419) (R0 := 48) (a0 := 2) pr_419 (by decide +kernel)
theorem pr_b6 : Pr 1206781 := pockc1 (q0 := 20113) (R0 := 60) (a0 := 2) pr_20113 (by decide +kernel)
theorem pr_b7 : Pr 7240687 := pockc1 (q0 := 1206781) (R0 := 6) (a0 := 2) pr_b6 (by decide +kernel)
theorem pr_239 : Pr 239 := prime_trial 239 15 (by decide) (by decide) (by decide +kernel)
theorem pr_101 : Pr 101 := prime_trial 101 10 (by decide) (by decide) (by decide +kernel)
theorem pr_96557 : Pr 96557 := pockc2 (q0 := 239) (R0 := 404) (a0 := 2) (q1 := 101) (R1 := 956) (a1 := 2) pr_239 pr_101 (by decide +kernel)
theorem pr_b11 : Pr 255515944373312847190720520512484175977 := pockc3 (q0 := 107590001) (R0 := 2374904191824599455024826335976) (a0 := 2) (q1 := 7240687) (R1 := 35288908963101546467996824129048) (a1 := 2) (q2 := 96557) (R2 := 2646270538369179315748423423599368) (a2 := 2) pr_b3 pr_b7 pr_96557 (by decide +kernel)
theorem pr_b12 : Pr 205115282021455665897114700593932402728804164701536103180137503955397371 := pockc1 (q0 := 255515944373312847190720520512484175977) (R0 := 802749442992798076634733441528810) (a0 := 2) pr_b11 (by decide +kernel)
/-- the prime of the field -/
theorem pr_field : Pr 115792089237316195423570985008687907853269984665640564039457584007908834671663 := pockc1 (q0 := 205115282021455665897114700593932402728804164701536103180137503955397371) (R0 := 564522) (a0 := 2) pr_b12 (by decide +kernel)
theorem pr_1871 : Pr 1871 := prime_trial 1871 43 (by decide) (by decide) (by decide +kernel)
theorem pr_b15 : Pr 1627771 := pockc1 (q0 := 1871) (R0 := 870) (a0 := 2) pr_1871 (by decide +kernel)
theorem pr_b16 : Pr 297159362677 := pockc1 (q0 := 1627771) (R0 := 182556) (a0 := 2) pr_b15 (by decide +kernel)
theorem pr_1409 : Pr 1409 := prime_trial 1409 37 (by decide) (by decide) (by decide +kernel)
theorem pr_28181 : Pr 28181 := pockc1 (q0 := 1409) (R0 := 20) (a0 := 2) pr_1409 (by decide +kernel)
theorem pr_b19 : Pr 545358713 := pockc1 (q0 := 28181) (R0 := 19352) (a0 := 2) pr_28181 (by decide +kernel)
theorem pr_b20 : Pr 29047611873442575647497758179 := pockc2 (q0 := 297159362677) (R0 := 97750956294169114) (a0 := 2) (q1 := 545358713) (R1 := 53263313083699784306) (a1 := 2) pr_b16 pr_b19 (by decide +kernel)
theorem pr_b21 : Pr 341948486974166000522343609283189 := pockc1 (q0 := 29047611873442575647497758179) (R0 := 11772) (a0 := 2) pr_b20 (by decide +kernel)
theorem pr_41 : Pr 41 := prime_trial 41 6 (by decide) (by decide) (by decide +kernel)
theorem pr_19 : Pr 19 := prime_trial 19 4 (by decide) (by decide) (by decide +kernel)
theorem pr_9349 : Pr 9349 := pockc2 (q0 := 41) (R0 := 228) (a0 := 2) (q1 := 19) (R1 := 492) (a1 := 2) pr_41 pr_19 (by decide +kernel)
theorem pr_b25 : Pr 44706919 := pockc1 (q0 := 9349) (R0 := 4782) (a0 := 2) pr_9349 (by decide +kernel)
theorem pr_113 : Pr 113 := prime_trial 113 10 (by decide) (by decide) (by decide +kernel)
theorem pr_120233 : Pr 120233 := pockc2 (q0 := 113) (R0 := 1064) (a0 := 2) (q1 := 19) (R1 := 6328) (a1 := 2) pr_113 pr_19 (by decide +kernel)
theorem pr_b28 : Pr 174723607534414371449 := pockc2 (q0 := 44706919) (R0 := 3908200597192) (a0 := 2) (q1 := 120233) (R1 := 1453208416444856) (a1 := 2) pr_b25 pr_120233 (by decide +kernel)
/-- the order -/
theorem pr_order : Pr 115792089237316195423570985008687907852837564279074904382605163141518161494337 := pockc2 (q0 := 341948486974166000522343609283189) (R0 := 338624364920977752681389262317185522840540224) (a0 := 2) (q1 := 174723607534414371449) (R1 := 662715765037699607481235088557493206623080876315205958464) (a1 := 2) pr_b21 pr_b28 (by decide +kernel)
end Go.Proofs.Ytmpejkhffbonnaa.EM
