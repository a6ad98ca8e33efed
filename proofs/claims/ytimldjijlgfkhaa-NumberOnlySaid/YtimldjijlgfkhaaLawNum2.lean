/- The walks of the laws NumberBack, NumberOnly. -/
import Derived.Test.YtimldjijlgfkhaaLawNum
import Derived.Test.YtimldjijlgfkhaaNumPlain
namespace Go.Proofs.Ytimldjijlgfkhaa
open Go.RowKit

set_option maxHeartbeats 1000000 in
set_option maxRecDepth 100000 in
theorem lawBack_any (w : World) (n : Int) (hn1 : -9223372036854775808 ≤ n) (hn2 : n ≤ 9223372036854775807) :
    Calls Try.prog 6 #[.int .i64 n] w (LawEnd w) := by
  have hl := enc_length n (by omega)
  have hv := val_enc n
  have ht := truth_enc n
  obtain ⟨L, hL⟩ : ∃ L, enc n = L := ⟨_, rfl⟩
  rw [hL] at hl hv ht
  obtain ⟨N, hN⟩ : ∃ N, L.length = N := ⟨_, rfl⟩
  have HD1 : Hid (N ≤ 8 → decV L (N : Int) = .tuple #[.int .i64 n, .int .i64 0]) := fun h8 => by
    rw [← hv]
    exact decV_ok (by omega) (by omega) (by rw [hv, hL]; simp)
  have HD2 : Hid (decV L ((N : Int) - 1) = .tuple #[.int .i64 0, .int .i64 15]) := decV_long (by omega)
  obtain ⟨b, hb⟩ : ∃ b, (n != 0) = b := ⟨_, rfl⟩
  rw [hb] at ht
  rw [hN] at hl
  have HL := Lib.hid hL
  have HN := Lib.hid hN
  clear hL hN hv
  by_cases h8 : N ≤ 8
  · have HD3 := Lib.hid (HD1.out h8)
    clear HD1
    go_enter Try.func6, Try.ntmps6
    go_wp2_with fail
    refine (encode_any _ _ (by omega) (by omega)).mono ?_
    intro e w1 h1
    obtain ⟨a1, c1, rfl, hr1, hb1, _⟩ := encEnd_at h1 HL.out HN.out (by omega)
    clear h1
    have HR1 := Lib.hid hr1
    clear hr1
    go_wp2_with fail
    refine (truth_at _ _ L _ _ HN.out HR1.out).mono ?_
    rintro e w2 ⟨rfl, rfl⟩
    go_wp2_with fail
    refine (decode_at _ _ L _ _ _ _ HN.out HR1.out HD3.out).mono ?_
    rintro e w3 ⟨rfl, hb3⟩
    have HR2 := Lib.hid (HR1.out.below hb3 (Nat.le_refl _))
    go_wp2_with fail
    refine (decode_at _ _ L _ _ _ _ HN.out HR2.out HD2.out).mono ?_
    rintro e w4 ⟨rfl, hb4⟩
    go_wp2_with (go_at_call 8; refine (alive_any _).mono ?_; rintro e w5 ⟨rfl, hb5⟩)
    go_ret
    exact ⟨ret_bool (by simp), bl_tr (bl_tr (bl_tr hb1 hb3) hb4) hb5⟩
  · have h9 : 8 < N := by omega
    clear HD1 HD2
    go_enter Try.func6, Try.ntmps6
    go_wp2_with fail
    refine (encode_any _ _ (by omega) (by omega)).mono ?_
    intro e w1 h1
    obtain ⟨a1, c1, rfl, hr1, hb1, _⟩ := encEnd_at h1 HL.out HN.out (by omega)
    clear h1
    have HR1 := Lib.hid hr1
    clear hr1
    go_wp2_with fail
    refine (truth_at _ _ L _ _ HN.out HR1.out).mono ?_
    rintro e w2 ⟨rfl, rfl⟩
    go_wp2_with (go_at_call 8; refine (alive_any _).mono ?_; rintro e w5 ⟨rfl, hb5⟩)
    go_ret
    exact ⟨rfl, bl_tr hb1 hb5⟩

end Go.Proofs.Ytimldjijlgfkhaa
