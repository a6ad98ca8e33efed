/- The walks of the laws NumberTruth, NumberDecode, NumberBack, NumberOnly. -/
import Derived.Test.YtimldjijlgfkhaaLawEnc
import Derived.Test.YtimldjijlgfkhaaFrame
import Derived.Laws.AppendOwnNone
namespace Go.Proofs.Ytimldjijlgfkhaa
open Go.RowKit

abbrev LawEnd (w : World) (e : Ending) (w' : World) : Prop := e = .returned (.bool true) ∧ Below w.heap.size w w'

theorem truthR_at (w : World) (a : Option Addr) (l : List UInt8) (cap n : Nat) (hn : l.length = n) (h : Rd w a l) :
    Calls Try.prog 16 #[.slice a n cap] w fun e w' => e = .returned (.bool (truthL l)) ∧ w = w' := by
  subst hn
  exact truthR_any w a l cap h
theorem decodeR_at (w : World) (a : Option Addr) (l : List UInt8) (cap n : Nat) (most : Int) (v : Value) (hn : l.length = n) (h : Rd w a l) (hv : decV l most = v) :
    Calls Try.prog 14 #[.slice a n cap, .int .i64 most] w fun e w' => e = .returned v ∧ Below w.heap.size w w' := by
  subst hn
  exact (decodeR_any w a l cap most h).mono fun e w' ⟨h1, h2⟩ => ⟨by rw [h1, hv], h2⟩

set_option maxHeartbeats 1000000 in
set_option maxRecDepth 100000 in
theorem lawTruth_any (w : World) (a : Option Addr) (l : List UInt8) (cap : Nat) (h : RdN w a l) :
    Calls Try.prog 5 #[.slice a l.length cap] w (LawEnd w) := by
  obtain ⟨n, hn⟩ : ∃ n, l.length = n := ⟨_, rfl⟩
  by_cases hlong : 200 < n
  · rw [hn]
    clear h hn
    go_enter Try.func5, Try.ntmps5
    go_wp2_with (go_at_call 8; refine (alive_any _).mono ?_; rintro e w1 ⟨rfl, hb1⟩)
    go_ret
    exact ⟨rfl, hb1⟩
  · have HR : Hid (Rd w a l) := ⟨by omega, h⟩
    rw [hn]
    have HN := Lib.hid hn
    clear h hn
    go_enter Try.func5, Try.ntmps5
    go_wp2_with (first
      | (go_at_call 8; refine (alive_any _).mono ?_; rintro e w1 ⟨rfl, hb1⟩; have HR1 := Lib.hid (HR.out.below hb1 (Nat.le_refl _)))
      | (go_at_call 15; refine (truth_at _ _ l _ _ HN.out HR1.out).mono ?_; rintro e w2 ⟨rfl, rfl⟩)
      | (go_at_call 16; refine (truthR_at _ _ l _ _ HN.out HR1.out).mono ?_; rintro e w3 ⟨rfl, rfl⟩))
    go_ret
    exact ⟨ret_bool (by simp), hb1⟩

theorem decV_form (l : List UInt8) (most : Int) : ∃ X E : Int, decV l most = .tuple #[.int .i64 X, .int .i64 E] := ⟨_, _, rfl⟩

/-- 'append([]byte{}, b...)', to its end -/
theorem own_nil (w : World) (B : Nat) (hB : B = w.heap.size) : (w.alloc (.cells #[] 5)).ownsRow B 5 1 (.slice (some ⟨B, 0, none⟩) 0 0) 0 [] := by
  subst hB
  exact World.ownsRow_lit w #[] 0 (Nat.le_refl _) (by decide) rfl

theorem rd_news {w : World} {ad : Addr} {l : List UInt8} (h : Rd w (some ad) l) (w' : World) (hb : Below w.heap.size w w') : ∀ j u, (bv l)[j]? = some u → w'.cell? (ad.add j) = some u := by
  intro j u hj
  have hjl : j < l.length := by
    have := (List.getElem?_eq_some_iff.1 hj).1
    simpa [bv] using this
  rw [bv_get l j hjl] at hj
  cases hj
  have h' := h.below hb (Nat.le_refl _)
  obtain ⟨b, off, h1, hc⟩ := h'.2 (by omega)
  cases h1
  rw [← hc j hjl]
  simp [Addr.add]
  by_cases hj0 : j = 0 <;> simp [hj0]
theorem bv_one (l : List UInt8) : ∀ u ∈ bv l, u.oneCell' = true := by
  intro u hu
  simp [bv] at hu
  obtain ⟨c, _, rfl⟩ := hu
  rfl

set_option maxHeartbeats 1000000 in
set_option maxRecDepth 100000 in
theorem lawDecode_any (w : World) (a : Option Addr) (l : List UInt8) (cap : Nat) (long : Int) (h : RdN w a l) (hz : a = none → cap = 0) :
    Calls Try.prog 4 #[.slice a l.length cap, .int .i64 long] w (LawEnd w) := by
  obtain ⟨i0, hi, hz0, hz1, hz2⟩ := info_parts info_u8
  have hmk : (Instr.buildSlice 23 0 #[]).run Try.prog w = .ok (.slice (some ⟨w.heap.size, 0, none⟩) 0 0) (w.alloc (.cells #[] 5)) := by kernel_rfl
  obtain ⟨n, hn⟩ : ∃ n, l.length = n := ⟨_, rfl⟩
  by_cases hlong : 200 < n
  · rw [hn]
    clear h hn
    go_enter Try.func4, Try.ntmps4
    go_wp2_with (go_at_call 8; refine (alive_any _).mono ?_; rintro e w1 ⟨rfl, hb1⟩)
    go_ret
    exact ⟨rfl, hb1⟩
  · have HR : Hid (Rd w a l) := ⟨by omega, h⟩
    obtain ⟨X, E, hX⟩ := decV_form l long
    have HX := Lib.hid hX
    rw [hn]
    have HN := Lib.hid hn
    clear h hn hX
    cases a with
    | none =>
      have hl0 : l = [] := by
        refine Classical.byContradiction fun hne => ?_
        obtain ⟨b, off, h1, _⟩ := HR.out.2 (by simpa using hne)
        cases h1
      obtain rfl : n = 0 := by rw [← HN.out, hl0]; rfl
      obtain rfl : cap = 0 := hz rfl
      have hb0 : Below w.heap.size w (w.alloc (.cells #[] 5)) := (Below.refl _ _).alloc (Nat.le_refl _) _
      have HR0 := Lib.hid (HR.out.below hb0 (Nat.le_refl _))
      have HR2 : Hid (Rd (w.alloc (.cells #[] 5)) (some ⟨w.heap.size, 0, none⟩) l) := by rw [hl0]; exact ⟨by decide, fun h => absurd rfl h⟩
      go_enter Try.func4, Try.ntmps4
      go_wp2_with (at_builtin; refine wpList_append_own_none rfl _ _ 23 rfl w.heap.size 5 i0 1 Try.underlying23 hi _ _ _ rfl (own_nil w _ rfl) rfl ?_)
      go_wp2_with (first
        | (go_at_call 13; refine (decode_at _ _ l _ _ _ _ HN.out HR2.out HX.out).mono ?_; rintro e w2 ⟨rfl, hb2⟩; have HR1' := Lib.hid (HR0.out.below hb2 (Nat.le_refl _)); have HR2' := Lib.hid (HR2.out.below hb2 (Nat.le_refl _)))
        | (go_at_call 14; refine (decodeR_at _ _ l _ _ _ _ HN.out HR1'.out HX.out).mono ?_; rintro e w3 ⟨rfl, hb3⟩; have HR3 := Lib.hid (HR1'.out.below hb3 (Nat.le_refl _)); have HR4 := Lib.hid (HR2'.out.below hb3 (Nat.le_refl _)))
        | (go_at_call 8; refine (alive_any _).mono ?_; rintro e w4 ⟨rfl, hb4⟩; have hcv1 := conv_at 0 (HR3.out.below hb4 (Nat.le_refl _)) HN.out; have hcv2 := conv_at 0 (HR4.out.below hb4 (Nat.le_refl _)) HN.out))
      go_ret
      exact ⟨ret_bool (by simp), bl_tr (bl_tr (bl_tr hb0 hb2) hb3) hb4⟩
    | some ad =>
      have hb0 : Below w.heap.size w (w.alloc (.cells #[] 5)) := (Below.refl _ _).alloc (Nat.le_refl _) _
      go_enter Try.func4, Try.ntmps4
      go_wp2_with (at_builtin; refine wpList_append_own _ rfl _ _ 23 rfl w.heap.size 5 i0 (.int .u8 0) 1 1 Try.underlying23 hi hz0 hz1 hz2 rfl (by decide) _ _ _ rfl (own_nil w _ rfl) ad n cap (bv l) rfl ?c2 (rd_news HR.out _ hb0) (bv_one l) ?c3 ?c4 ?c5 ?_)
      case c2 => rw [Nat.mul_one]; simp [bv]; exact HN.out
      case c3 => unfold maxLen; omega
      case c4 => omega
      case c5 => simp
      intro v' w1 hown' hgrow _
      have R1 : Own w.heap.size w1 v' l := by
        unfold Own; rw [HN.out]; simpa using hown'
      have hb1 : Below w.heap.size w w1 := hb0.grown hgrow (by simp) (fun k hk => by simp [Value.ownBlock] at hk; omega)
      clear hown' hgrow hb0 hmk
      obtain ⟨a2, c2, rfl, hr2⟩ := R1.rd (by rw [HN.out]; omega)
      rw [HN.out] at R1 ⊢
      have HR1 := Lib.hid (HR.out.below hb1 (Nat.le_refl _))
      have HR2 := Lib.hid hr2
      clear hr2 R1
      go_wp2_with (first
        | (go_at_call 13; refine (decode_at _ _ l _ _ _ _ HN.out HR2.out HX.out).mono ?_; rintro e w2 ⟨rfl, hb2⟩; have HR1' := Lib.hid (HR1.out.below hb2 (Nat.le_refl _)); have HR2' := Lib.hid (HR2.out.below hb2 (Nat.le_refl _)))
        | (go_at_call 14; refine (decodeR_at _ _ l _ _ _ _ HN.out HR1'.out HX.out).mono ?_; rintro e w3 ⟨rfl, hb3⟩; have HR3 := Lib.hid (HR1'.out.below hb3 (Nat.le_refl _)); have HR4 := Lib.hid (HR2'.out.below hb3 (Nat.le_refl _)))
        | (go_at_call 8; refine (alive_any _).mono ?_; rintro e w4 ⟨rfl, hb4⟩; have hcv1 := conv_at cap (HR3.out.below hb4 (Nat.le_refl _)) HN.out; have hcv2 := conv_at c2 (HR4.out.below hb4 (Nat.le_refl _)) HN.out))
      go_ret
      exact ⟨ret_bool (by simp), bl_tr (bl_tr (bl_tr hb1 hb2) hb3) hb4⟩
end Go.Proofs.Ytimldjijlgfkhaa
