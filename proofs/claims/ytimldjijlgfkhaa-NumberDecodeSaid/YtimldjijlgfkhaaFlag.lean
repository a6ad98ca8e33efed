/- The contracts of the reference's Truth, of both Flags, and of alive. -/
import Derived.Test.YtimldjijlgfkhaaDecR
namespace Go.Proofs.Ytimldjijlgfkhaa
open Go.RowKit

set_option maxHeartbeats 400000 in
theorem truthR_any (w : World) (a : Option Addr) (l : List UInt8) (cap : Nat) (h : Rd w a l) :
    Calls Try.prog 16 #[.slice a l.length cap] w fun e w' => e = .returned (.bool (truthL l)) ∧ w = w' := by
  obtain ⟨hlen, hrd⟩ := h
  obtain ⟨n, hn⟩ : ∃ n, l.length = n := ⟨_, rfl⟩
  have HT : Hid (truthL l = tr l n) := by unfold truthL; rw [hn]; exact rfl
  rw [hn] at hlen hrd ⊢
  have HN := Lib.hid hn
  clear hn
  by_cases h0 : n = 0
  · subst h0
    clear hrd
    go_enter Try.func16, Try.ntmps16
    go_wp2
    go_loop [3] (fun i => i = .int .i64 0) (fun _ => 0)
    case atStart => rfl
    case round =>
      obtain rfl := hrel
      go_wp2
      go_ret
      exact ⟨by rw [HT.out]; rfl, rfl⟩
  · obtain ⟨b, off, rfl, hc⟩ := hrd h0
    clear hrd
    go_enter Try.func16, Try.ntmps16
    go_wp2
    go_loop [3] (fun i => ∃ k : Nat, k ≤ n ∧ i = .int .i64 k ∧ tr l k = false) (fun i => n - (intOf i).toNat)
    case atStart => exact ⟨0, Nat.zero_le _, rfl, rfl⟩
    case round =>
      obtain ⟨k, hk, rfl, hf⟩ := hrel
      have HF := Lib.hid hf
      clear hf
      by_cases hlt : k < n
      · obtain ⟨c, hcell, hcv⟩ : ∃ c : Int, w.cell? ⟨b, off + k, none⟩ = some (.int .u8 c) ∧ c = ((l.getD k 0).toNat : Int) := ⟨_, hc k hlt, rfl⟩
        have HS : Hid (tr l (k + 1) = (tr l k || ((c != 0) && !(decide (k + 1 = n) && (c == 128))))) := tr_step l k n c HN.out hcv
        clear hcv hc
        rcases Bool.eq_false_or_eq_true (c != 0) with h1 | h1
        · by_cases h2 : k + 1 < n
          · go_wp2
            go_ret
            exact ⟨ret_bool (by rw [HT.out]; exact (tr_mono l (k + 1) (by rw [HS.out, h1, decide_eq_false (by omega)]; simp) n (by omega)).symm), rfl⟩
          · obtain rfl : n = k + 1 := by omega
            clear h2 h0
            rcases Bool.eq_false_or_eq_true (c == 128) with h4 | h4
            · go_wp2
              all_goals go_round
              case rel => exact ⟨k + 1, by omega, by go_num, by rw [HS.out, HF.out, h1, h4, decide_eq_true (by omega)]; rfl⟩
              case measure => simp [intOf]
            · go_wp2
              go_ret
              exact ⟨ret_bool (by rw [HT.out]; exact (tr_mono l (k + 1) (by rw [HS.out, h1, h4]; simp) _ (by omega)).symm), rfl⟩
        · go_wp2
          go_round
          case rel => exact ⟨k + 1, by omega, by go_num, by rw [HS.out, HF.out, h1]; rfl⟩
          case measure => simp [intOf]; omega
      · obtain rfl : k = n := by omega
        go_wp2
        go_ret
        exact ⟨ret_bool (by rw [HT.out, HF.out]), rfl⟩

def flagL (v : Bool) : List UInt8 := if v then [1] else []

theorem own_one {B : Nat} (w : World) (hB : B = w.heap.size) : Own B (w.alloc (.cells #[.int .u8 1] 5)) (.slice (some ⟨B, 0, none⟩) 1 1) [1] := by
  subst hB
  exact World.ownsRow_lit w #[.int .u8 1] 1 (Nat.le_refl _) (by decide) rfl

theorem flag_any (w : World) (v : Bool) : Calls Try.prog 11 #[.bool v] w (EncEnd w.heap.size w (flagL v)) := by
  cases v
  all_goals
    go_enter Try.func11, Try.ntmps11
    go_wp2
    go_ret
    first
    | exact ⟨_, rfl, World.ownsRow_nil _ _ _ _, Below.refl _ _⟩
    | exact ⟨_, rfl, own_one w rfl, (Below.refl _ _).alloc (Nat.le_refl _) _⟩
theorem flagR_any (w : World) (v : Bool) : Calls Try.prog 12 #[.bool v] w (EncEnd w.heap.size w (flagL v)) := by
  have hmk : (Instr.buildSlice 23 0 #[]).run Try.prog w = .ok (.slice (some ⟨w.heap.size, 0, none⟩) 0 0) (w.alloc (.cells #[] 5)) := by kernel_rfl
  cases v
  all_goals
    go_enter Try.func12, Try.ntmps12
    go_wp2
    go_ret
    first
    | exact ⟨_, rfl, World.ownsRow_lit w #[] 0 (Nat.le_refl _) (by decide) rfl, (Below.refl _ _).alloc (Nat.le_refl _) _⟩
    | exact ⟨_, rfl, own_one w rfl, (Below.refl _ _).alloc (Nat.le_refl _) _⟩

/-- a new row of bytes reads so -/
theorem rd_new (w : World) (cs : Array Value) (l : List UInt8) (B : Nat) (hB : B = w.heap.size) (h : cs.toList = bv l) (hl : l.length ≤ 140737488351232) : Rd (w.alloc (.cells cs 5)) (some ⟨B, 0, none⟩) l := by
  subst hB
  refine ⟨hl, fun _ => ⟨_, _, rfl, fun k hk => ?_⟩⟩
  rw [World.cell?_alloc_at _ _ _ _ rfl, Nat.zero_add, ← Array.getElem?_toList, h, bv_get l k hk]

theorem enc_m128 : enc (-128) = [128, 128] := by
  have h : le 128 = [128] := by rw [le_pos _ (by decide), le_zero]; rfl
  show sgn _ (le 128) = _
  rw [h]; rfl
theorem enc_128 : enc 128 = [128, 0] := by
  have h : le 128 = [128] := by rw [le_pos _ (by decide), le_zero]; rfl
  show sgn _ (le 128) = _
  rw [h]; rfl
theorem enc_0 : enc 0 = [] := by
  show sgn _ (le 0) = _
  rw [le_zero]; rfl
theorem dec_a1 : decV [128, 128] 4 = .tuple #[.int .i64 (-128), .int .i64 0] :=
  decV_ok (by decide) (by decide) (by show (enc (-128) == _) = true; rw [enc_m128]; rfl)
theorem dec_a2 : decV [128] 4 = .tuple #[.int .i64 0, .int .i64 15] :=
  decV_no (by show (enc 0 == _) = false; rw [enc_0]; rfl)

theorem bl_al {w X : World} (h : Below w.heap.size w X) (o : Obj) : Below w.heap.size w (X.alloc o) := h.alloc h.size o
theorem bl_tr {w X Y : World} (h : Below w.heap.size w X) (h2 : Below X.heap.size X Y) : Below w.heap.size w Y := h.trans (h2.mono h.size)

/-- what a call of Decode leaves, at a known answer -/
theorem decode_at (w : World) (a : Option Addr) (l : List UInt8) (cap n : Nat) (most : Int) (v : Value) (hn : l.length = n) (h : Rd w a l) (hv : decV l most = v) :
    Calls Try.prog 13 #[.slice a n cap, .int .i64 most] w fun e w' => e = .returned v ∧ Below w.heap.size w w' := by
  subst hn
  exact (decode_any w a l cap most h).mono fun e w' ⟨h1, h2⟩ => ⟨by rw [h1, hv], h2⟩
theorem truth_at (w : World) (a : Option Addr) (l : List UInt8) (cap n : Nat) (hn : l.length = n) (h : Rd w a l) :
    Calls Try.prog 15 #[.slice a n cap] w fun e w' => e = .returned (.bool (truthL l)) ∧ w = w' := by
  subst hn
  exact truth_any w a l cap h

/-- a list of bytes out of Encode or Flag, as the callers use it: its string -/
theorem encEnd_mk {w w1 : World} {l : List UInt8} {e : Ending} (h : EncEnd w.heap.size w l e w1) (hl : l.length ≤ 140737488351232) :
    ∃ a cap, e = .returned (.slice a l.length cap) ∧ Rd w1 a l ∧ Below w.heap.size w w1 ∧ (convert 23 9 (.slice a l.length cap)).run Try.prog w1 = .ok (.string ⟨l.toArray⟩) w1 := by
  obtain ⟨v, rfl, h1, h2⟩ := h
  obtain ⟨a, cap, rfl, h3⟩ := h1.rd hl
  exact ⟨a, cap, rfl, h3, h2, conv_rd cap h3⟩

theorem encEnd_at {w w1 : World} {l l' : List UInt8} {n : Nat} {e : Ending} (h : EncEnd w.heap.size w l e w1) (he : l = l') (hn : l'.length = n) (hl : n ≤ 140737488351232) :
    ∃ a cap, e = .returned (.slice a n cap) ∧ Rd w1 a l' ∧ Below w.heap.size w w1 ∧ (convert 23 9 (.slice a n cap)).run Try.prog w1 = .ok (.string ⟨l'.toArray⟩) w1 := by
  subst he hn
  exact encEnd_mk h hl

set_option maxHeartbeats 1000000 in
theorem alive_any (w : World) : Calls Try.prog 8 #[] w fun e w' => e = .returned (.bool true) ∧ Below w.heap.size w w' := by
  have L1 := enc_length 128 (by decide)
  go_enter Try.func8, Try.ntmps8
  go_wp2_with fail
  refine (decode_at _ _ [128, 128] _ _ _ _ rfl (rd_new w #[.int .u8 128, .int .u8 128] _ _ rfl rfl (by decide)) dec_a1).mono ?_
  rintro e w1 ⟨rfl, hb1⟩
  go_wp2_with fail
  refine (decode_at _ _ [128] _ _ _ _ rfl (rd_new w1 #[.int .u8 128] _ _ rfl rfl (by decide)) dec_a2).mono ?_
  rintro e w2 ⟨rfl, hb2⟩
  go_wp2_with fail
  refine (encode_any _ 128 (by decide) (by decide)).mono ?_
  intro e w3 h3
  obtain ⟨a3, c3, rfl, hr3, hb3, hcv3⟩ := encEnd_at h3 enc_128 (n := 2) rfl (by decide)
  clear h3
  go_wp2_with fail
  refine (truth_at _ _ [1] _ _ rfl (rd_new w3 #[.int .u8 1] _ _ rfl rfl (by decide))).mono ?_
  rintro e w4 ⟨rfl, rfl⟩
  have ht : truthL [1] = true := rfl
  go_wp2_with fail
  refine (flag_any _ true).mono ?_
  intro e w5 h5
  obtain ⟨a5, c5, rfl, hr5, hb5, hcv5⟩ := encEnd_at h5 (l' := [1]) rfl (n := 1) rfl (by decide)
  clear h5
  go_wp2
  go_ret
  refine ⟨ret_bool ?_, ?_⟩
  · rfl
  · exact bl_tr (bl_al (bl_tr (bl_tr (bl_al (bl_tr (bl_al (Below.refl _ _) _) hb1) _) hb2) hb3) _) hb5
end Go.Proofs.Ytimldjijlgfkhaa
