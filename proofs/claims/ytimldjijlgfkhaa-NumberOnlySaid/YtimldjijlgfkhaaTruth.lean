/- The contracts of Truth and Flag. -/
import Derived.Test.YtimldjijlgfkhaaRows
import Derived.WalkKit
import Derived.Below
import Derived.Outline
import Derived.Lib.Hide
namespace Go.Proofs.Ytimldjijlgfkhaa
open Go.RowKit

/-- a slice value that reads as bytes -/
def Rd (w : World) (a : Option Addr) (l : List UInt8) : Prop :=
  l.length ≤ 140737488351232 ∧ (l.length ≠ 0 → ∃ b off, a = some ⟨b, off, none⟩ ∧ ∀ k, k < l.length → w.cell? ⟨b, off + k, none⟩ = some (.int .u8 ((l.getD k 0).toNat : Int)))

def tr (l : List UInt8) : Nat → Bool
  | 0 => false
  | k + 1 => tr l k || (l.getD k 0 != 0 && !(k + 1 == l.length && l.getD k 0 == 128))
def truthL (l : List UInt8) : Bool := tr l l.length
theorem tr_mono (l : List UInt8) (j : Nat) (h : tr l j = true) : ∀ k, j ≤ k → tr l k = true := by
  intro k
  induction k with
  | zero => intro hk; have : j = 0 := by omega
            subst this; exact h
  | succ k ih =>
    intro hk
    by_cases e : j = k + 1
    · subst e; exact h
    · rw [tr, ih (by omega)]; rfl

theorem tr_step (l : List UInt8) (k n : Nat) (c : Int) (hn : l.length = n) (hc : c = ((l.getD k 0).toNat : Int)) :
    tr l (k + 1) = (tr l k || ((c != 0) && !(decide (k + 1 = n) && (c == 128)))) := by
  have e0 : (l.getD k 0 != 0) = (c != 0) := by
    rw [hc, Bool.eq_iff_iff]; simp [bne_iff_ne, ← UInt8.toNat_inj]
  have e1 : (l.getD k 0 == 128) = (c == 128) := by
    rw [hc, Bool.eq_iff_iff]; simp [← UInt8.toNat_inj]; omega
  rw [tr, e0, e1, hn]
  rfl

theorem ret_bool {a b : Bool} (h : a = b) : Ending.returned (.bool a) = .returned (.bool b) := by rw [h]

set_option maxHeartbeats 400000 in
theorem truth_any (w : World) (a : Option Addr) (l : List UInt8) (cap : Nat) (h : Rd w a l) :
    Calls Try.prog 15 #[.slice a l.length cap] w fun e w' => e = .returned (.bool (truthL l)) ∧ w = w' := by
  obtain ⟨hlen, hrd⟩ := h
  obtain ⟨n, hn⟩ : ∃ n, l.length = n := ⟨_, rfl⟩
  have HT : Hid (truthL l = tr l n) := by unfold truthL; rw [hn]; exact rfl
  rw [hn] at hlen hrd ⊢
  have HN := Lib.hid hn
  clear hn
  by_cases h0 : n = 0
  · subst h0
    clear hrd
    go_enter Try.func15, Try.ntmps15
    go_wp2
    go_loop [8] (fun i => i = .int .i64 0) (fun _ => 0)
    case atStart => rfl
    case round =>
      obtain rfl := hrel
      go_wp2
      go_ret
      exact ⟨by rw [HT.out]; rfl, rfl⟩
  · obtain ⟨b, off, rfl, hc⟩ := hrd h0
    clear hrd
    go_enter Try.func15, Try.ntmps15
    go_wp2
    go_loop [8] (fun i => ∃ k : Nat, k ≤ n ∧ i = .int .i64 k ∧ tr l k = false) (fun i => n - (intOf i).toNat)
    case atStart => exact ⟨0, Nat.zero_le _, rfl, rfl⟩
    case round =>
      obtain ⟨k, hk, rfl, hf⟩ := hrel
      have HF := Lib.hid hf
      clear hf
      by_cases hlt : k < n
      · obtain ⟨c, hcell, hcv⟩ : ∃ c : Int, w.cell? ⟨b, off + k, none⟩ = some (.int .u8 c) ∧ c = ((l.getD k 0).toNat : Int) := ⟨_, hc k hlt, rfl⟩
        have HS : Hid (tr l (k + 1) = (tr l k || ((c != 0) && !(decide (k + 1 = n) && (c == 128))))) := tr_step l k n c HN.out hcv
        clear hcv hc
        rcases Bool.eq_false_or_eq_true (c != 0) with h1 | h1
        · by_cases h2 : k + 1 < n
          · go_wp2
            go_ret
            exact ⟨ret_bool (by rw [HT.out]; exact (tr_mono l (k + 1) (by rw [HS.out, h1, decide_eq_false (by omega)]; simp) n (by omega)).symm), rfl⟩
          · have h3 : n ≤ k + 1 := by omega
            clear h2
            rcases Bool.eq_false_or_eq_true (c == 128) with h4 | h4
            · go_wp2
              all_goals go_round
              case rel => exact ⟨k + 1, by omega, by go_num, by rw [HS.out, HF.out, h1, h4, decide_eq_true (by omega)]; rfl⟩
              case measure => simp [intOf]; omega
            · go_wp2
              go_ret
              exact ⟨ret_bool (by rw [HT.out]; exact (tr_mono l (k + 1) (by rw [HS.out, h1, h4]; simp) n (by omega)).symm), rfl⟩
        · go_wp2
          go_round
          case rel => exact ⟨k + 1, by omega, by go_num, by rw [HS.out, HF.out, h1]; rfl⟩
          case measure => simp [intOf]; omega
      · go_wp2
        go_ret
        exact ⟨ret_bool (by rw [HT.out, show n = k by omega, HF.out]), rfl⟩
end Go.Proofs.Ytimldjijlgfkhaa
