/- The walk of the law NumberEncode. -/
import Derived.Test.YtimldjijlgfkhaaFlag
namespace Go.Proofs.Ytimldjijlgfkhaa
open Go.RowKit

theorem conv_at {w : World} {a : Option Addr} {l : List UInt8} {n : Nat} (cap : Nat) (h : Rd w a l) (hn : l.length = n) : (convert 23 9 (.slice a n cap)).run Try.prog w = .ok (.string ⟨l.toArray⟩) w := by
  subst hn; exact conv_rd cap h

set_option maxHeartbeats 2000000 in
set_option maxRecDepth 100000 in
theorem lawEncode_any (w : World) (n : Int) (v : Bool) (hn1 : -9223372036854775808 ≤ n) (hn2 : n ≤ 9223372036854775807) :
    Calls Try.prog 3 #[.int .i64 n, .bool v] w fun e w' => e = .returned (.bool true) ∧ Below w.heap.size w w' := by
  have hl := enc_length n (by omega)
  obtain ⟨L, hL⟩ : ∃ L, enc n = L := ⟨_, rfl⟩
  obtain ⟨F, hF⟩ : ∃ F, flagL v = F := ⟨_, rfl⟩
  have hfl : F.length ≤ 1 := by subst hF; cases v <;> decide
  rw [hL] at hl
  obtain ⟨N, hN⟩ : ∃ N, L.length = N := ⟨_, rfl⟩
  obtain ⟨M, hM⟩ : ∃ M, F.length = M := ⟨_, rfl⟩
  rw [hN] at hl; rw [hM] at hfl
  have HL := Lib.hid hL
  have HF := Lib.hid hF
  have HN := Lib.hid hN
  have HM := Lib.hid hM
  clear hL hF hN hM
  go_enter Try.func3, Try.ntmps3
  go_wp2
  go_region_with (first
    | (go_at_call 8; refine (alive_any _).mono ?_; rintro e w1 ⟨rfl, hb1⟩)
    | (go_at_call 9; refine (encode_any _ _ (by omega) (by omega)).mono ?_; intro e w2 h2; obtain ⟨a2, c2, rfl, hr2, hb2, hcv2⟩ := encEnd_at h2 HL.out HN.out (by omega); clear h2)
    | (go_at_call 10; refine (encodeR_any _ _ (by omega) (by omega)).mono ?_; intro e w3 h3; obtain ⟨a3, c3, rfl, hr3, hb3, hcv3⟩ := encEnd_at h3 HL.out HN.out (by omega); have hcv2' := conv_at c2 (hr2.below hb3 (Nat.le_refl _)) HN.out; clear h3)
    | (go_at_call 11; refine (flag_any _ _).mono ?_; intro e w4 h4; obtain ⟨a4, c4, rfl, hr4, hb4, hcv4⟩ := encEnd_at h4 HF.out HM.out (by omega); clear h4)
    | (go_at_call 12; refine (flagR_any _ _).mono ?_; intro e w5 h5; obtain ⟨a5, c5, rfl, hr5, hb5, hcv5⟩ := encEnd_at h5 HF.out HM.out (by omega); have hcv4' := conv_at c4 (hr4.below hb5 (Nat.le_refl _)) HM.out; clear h5))
  all_goals go_wp2
  all_goals go_ret
  all_goals exact ⟨rfl, bl_tr (bl_tr (bl_tr (bl_tr (bl_tr (Below.refl _ w).drew hb1) hb2) hb3) hb4) hb5⟩
end Go.Proofs.Ytimldjijlgfkhaa
