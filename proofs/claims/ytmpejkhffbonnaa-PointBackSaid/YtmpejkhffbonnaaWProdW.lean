/- The walk of wide.product. -/
import Derived.Test.YtmpejkhffbonnaaWProd
import Derived.Deep.RegionHeld3
import Derived.Deep.DeepCutAuto
namespace Go.Proofs.Ytmpejkhffbonnaa
open Go.RowKit

def ProdInv (N : Nat) (w : World) (a b : Nat) (i : Value) (wr : World) : Prop :=
  ∃ k : Nat, k ≤ 4 ∧ i = .int .i64 k ∧ Blk wr N 24 (Wc a) ∧ Blk wr (N + 1) 24 (Wc b) ∧ Blk wr (N + 2) 71 (arr8 fun _ => 0) ∧ Blk wr (N + 3) 71 (arr8 (lim (VV a b k))) ∧ Below N w wr
def ProdInn (N : Nat) (w : World) (a b i : Nat) (kv cv : Value) (wr : World) : Prop :=
  ∃ k c : Nat, k ≤ 4 ∧ kv = .int .i64 k ∧ cv = .int .u64 c ∧ Inn (VV a b i) (wd a i) b i k c ∧ Blk wr N 24 (Wc a) ∧ Blk wr (N + 1) 24 (Wc b) ∧ Blk wr (N + 2) 71 (arr8 fun _ => 0) ∧ Blk wr (N + 3) 71 (arr8 (mix (VV a b i) (wd a i) b i k)) ∧ Below N w wr

theorem load_blk8 {w : World} {g : Nat} {t : TypeId} {cs : Array Value} (h : Blk w g t cs) (hs : cs.size = 8) : (loadVar 71 ⟨g, 0, none⟩).run Try.prog w = .ok (.agg cs) w :=
  run_loadVar_row w g t 71 cs (0, 0) _ h Try.underlying71 rfl (by rw [hs]; kernel_rfl)
theorem results_c8 {fn : Func} {p : Tmp} {tmps : Array Value} {w : World} {g : Nat} {t : TypeId} {cs : Array Value} (h : fn.results = #[.cell p 71]) (hp : tmps.getD p undef = .pointer (some ⟨g, 0, none⟩)) (hb : Blk w g t cs) (hs : cs.size = 8) :
    (results fn tmps).run Try.prog w = .ok (.agg cs) w := by
  have hp' : tmps[p]?.getD undef = .pointer (some ⟨g, 0, none⟩) := by simpa using hp
  simp [results, h, hp', asAddr, load_blk8 hb hs]
theorem Blk.fill8 {w : World} {g : Nat} {t : TypeId} {f : Nat → Int} (h : Blk w g t (arr8 f)) (x0 x1 x2 x3 x4 x5 x6 x7 : Int) :
    Blk ((((((((w.setCell ⟨g, 0, none⟩ (.int .u64 x0)).setCell ⟨g, 1, none⟩ (.int .u64 x1)).setCell ⟨g, 2, none⟩ (.int .u64 x2)).setCell ⟨g, 3, none⟩ (.int .u64 x3)).setCell ⟨g, 4, none⟩ (.int .u64 x4)).setCell ⟨g, 5, none⟩ (.int .u64 x5)).setCell ⟨g, 6, none⟩ (.int .u64 x6)).setCell ⟨g, 7, none⟩ (.int .u64 x7)) g t
      #[.int .u64 x0, .int .u64 x1, .int .u64 x2, .int .u64 x3, .int .u64 x4, .int .u64 x5, .int .u64 x6, .int .u64 x7] := by
  have h0 := h.set_ 0 (.int .u64 x0)
  rw [arr8_set f 0 (by omega)] at h0
  have h1 := h0.set_ 1 (.int .u64 x1)
  rw [arr8_set _ 1 (by omega)] at h1
  have h2 := h1.set_ 2 (.int .u64 x2)
  rw [arr8_set _ 2 (by omega)] at h2
  have h3 := h2.set_ 3 (.int .u64 x3)
  rw [arr8_set _ 3 (by omega)] at h3
  have h4 := h3.set_ 4 (.int .u64 x4)
  rw [arr8_set _ 4 (by omega)] at h4
  have h5 := h4.set_ 5 (.int .u64 x5)
  rw [arr8_set _ 5 (by omega)] at h5
  have h6 := h5.set_ 6 (.int .u64 x6)
  rw [arr8_set _ 6 (by omega)] at h6
  have h7 := h6.set_ 7 (.int .u64 x7)
  rw [arr8_set _ 7 (by omega)] at h7
  exact h7

set_option maxHeartbeats 2000000 in
theorem product_any (w : World) (a b : Nat) (ha : a < 2 ^ 256) (hb : b < 2 ^ 256) :
    Calls Try.prog 83 #[W a, W b] w fun e w' => e = .returned (P8 (a * b)) ∧ Below w.heap.size w w' := by
  have HA := Lib.hid ha
  have HB := Lib.hid hb
  clear ha hb
  go_enter Try.func83, Try.ntmps83
  go_wp2
  go_loopw [12] (fun i wr => ProdInv w.heap.size w a b i wr) (fun i _ => 4 - (intOf i).toNat)
  case atStart =>
    refine ⟨0, by omega, rfl, ?_, ?_, ?_, ?_, ?_⟩
    · exact (((Blk.new w _ _ _ rfl).alloc _).alloc _).alloc _
    · exact ((Blk.new _ _ _ _ (by simp)).alloc _).alloc _
    · exact (Blk.new _ _ _ _ (by simp)).alloc _
    · have : arr8 (lim (VV a b 0)) = arr8 fun _ => 0 := by
        apply arr8_ext
        intro j _
        unfold VV pw lim
        simp [Nat.mod_one]
      rw [this]
      exact Blk.new _ _ _ _ (by simp)
    · exact bl_al (bl_al (bl_al (bl_al (Below.refl _ _) _) _) _) _
  case round =>
    obtain ⟨i, hi, rfl, b0, b1, b2, b3, hbl⟩ := hrel
    by_cases hlt : i < 4
    · have K0 := Lib.hid b0
      have K1 := Lib.hid b1
      have K2 := Lib.hid b2
      have K3 := Lib.hid b3
      have KB := Lib.hid hbl
      clear b0 b1 b2 b3 hbl
      go_wp2
      rw [show decide ((i : Int) < 4) = true from decide_eq_true (by omega)]
      go_loopw [15, 7] (fun k c wx => ProdInn w.heap.size w a b i k c wx) (fun k _ _ => 4 - (intOf k).toNat)
      case atStart => 
        refine ⟨0, 0, by omega, rfl, rfl, inn_zero _ _ _ _, K0.out, K1.out, K2.out, ?_, KB.out⟩
        have : arr8 (mix (VV a b i) (wd a i) b i 0) = arr8 (lim (VV a b i)) := by
          apply arr8_ext
          intro j _
          unfold mix TT pw
          simp [Nat.mod_one]
        rw [this]
        exact K3.out
      case round =>
        clear K0 K1 K2 K3 KB
        obtain ⟨k, c, hk, rfl, rfl, hinn, b0, b1, b2, b3, hbl⟩ := hrel
        by_cases hk4 : k < 4
        · obtain ⟨x, hx⟩ : ∃ x, wd a i = x := ⟨_, rfl⟩
          obtain ⟨y, hy⟩ : ∃ y, wd b k = y := ⟨_, rfl⟩
          have hx2 : x < 18446744073709551616 := by rw [← hx]; exact wd_lt _ _
          have hy2 : y < 18446744073709551616 := by rw [← hy]; exact wd_lt _ _
          have hc2 : c < 18446744073709551616 := hinn.2
          obtain ⟨v, hv⟩ : ∃ v, wd (VV a b i) (i + k) = v := ⟨_, rfl⟩
          have hv2 : v < 18446744073709551616 := by rw [← hv]; exact wd_lt _ _
          obtain ⟨h, hh⟩ : ∃ h, x * y / 18446744073709551616 = h := ⟨_, rfl⟩
          obtain ⟨l, hl⟩ : ∃ l, x * y % 18446744073709551616 = l := ⟨_, rfl⟩
          obtain ⟨l1, e1⟩ : ∃ z, (l + v) % 18446744073709551616 = z := ⟨_, rfl⟩
          obtain ⟨c1, e2⟩ : ∃ z, (l + v) / 18446744073709551616 = z := ⟨_, rfl⟩
          obtain ⟨l2, e3⟩ : ∃ z, (l1 + c) % 18446744073709551616 = z := ⟨_, rfl⟩
          obtain ⟨c2, e4⟩ : ∃ z, (l1 + c) / 18446744073709551616 = z := ⟨_, rfl⟩
          obtain ⟨hc', hl'⟩ := digits_at x y v c h l l1 c1 l2 c2 hx2 hy2 hv2 hc2 hh hl e1 e2 e3 e4
          have a0 : wr.cell? ⟨w.heap.size, i, none⟩ = some (.int .u64 (x : Int)) := by rw [b0.cell, arr_get (lim a) i hlt, lim_wd, hx]
          have a1 : wr.cell? ⟨w.heap.size + 1, k, none⟩ = some (.int .u64 (y : Int)) := by rw [b1.cell, arr_get (lim b) k hk4, lim_wd, hy]
          have hm : mix (VV a b i) x b i k (i + k) = (v : Int) := by unfold mix; rw [if_neg (by omega), lim_wd, hv]
          rw [hx] at b3 hinn
          have a3 : wr.cell? ⟨w.heap.size + 3, i + k, none⟩ = some (.int .u64 (v : Int)) := by rw [b3.cell, arr8_get _ (i + k) (by omega), hm]
          have f3 : wr.frozen? ⟨w.heap.size + 3, i + k, none⟩ = false := b3.frozen _
          have HM := fun w => Lib.hid (mul_at w x y h l hx2 hy2 hh hl)
          have r1 := addc_at l v l1 c1 e1 e2
          have r2 := addc_at l1 c l2 c2 e3 e4
          have HX := Lib.hid hx
          have HY := Lib.hid hy
          have HV := Lib.hid hv
          have HI := Lib.hid hinn
          have HCE := Lib.hid hc'
          have HLE := Lib.hid hl'
          have K0 := Lib.hid b0
          have K1 := Lib.hid b1
          have K2 := Lib.hid b2
          have K3 := Lib.hid b3
          have KB := Lib.hid hbl
          clear hx hy hv hinn hc' hl' hm hh hl e1 e2 e3 e4 b0 b1 b2 b3 hbl
          have r1' := fun w => Lib.hid (r1 w)
          have r2' := fun w => Lib.hid (r2 w)
          clear r1 r2
          go_upto_region 9 with (fail)
          go_cut [9, 10] (fun hv lv wx => hv = .int .u64 (h : Int) ∧ lv = .int .u64 (l : Int) ∧ Blk wx w.heap.size 24 (Wc a) ∧ Blk wx (w.heap.size + 1) 24 (Wc b) ∧ Blk wx (w.heap.size + 2) 71 (arr8 fun _ => 0) ∧ Blk wx (w.heap.size + 3) 71 (arr8 (mix (VV a b i) x b i k)) ∧ Below w.heap.size w wx)
          case first =>
            go_region_with (go_at_call 97; refine (HM _).out.mono ?_; rintro e w2 ⟨rfl, rfl⟩)
            all_goals (go_wp2_with fail; go_meet; exact ⟨rfl, rfl, K0.out.drew, K1.out.drew, K2.out.drew, K3.out.drew, KB.out.drew⟩)
          case rest =>
            obtain ⟨rfl, rfl, b0, b1, b2, b3, hbl⟩ := hcut
            clear a0 a1 a3 f3 K0 K1 K2 K3 KB
            have K0 := Lib.hid b0
            have K1 := Lib.hid b1
            have K2 := Lib.hid b2
            have K3 := Lib.hid b3
            have KB := Lib.hid hbl
            have HVV : Hid (mix (VV a b i) x b i k (i + k) = (v : Int)) := by unfold Hid mix; rw [if_neg (by omega), lim_wd, HV.out]
            have a3 : wc.cell? ⟨w.heap.size + 3, i + k, none⟩ = some (.int .u64 (v : Int)) := by rw [b3.cell, arr8_get _ (i + k) (by omega), HVV.out]
            have f3 : wc.frozen? ⟨w.heap.size + 3, i + k, none⟩ = false := b3.frozen _
            have r1 := fun w => (r1' w).out
            have r2 := fun w => (r2' w).out
            clear b0 b1 b2 b3 hbl HM r1' r2'
            go_wp2_with fail
            go_roundw
            case rel =>
              refine ⟨k + 1, _, by omega, by go_num, by rw [HCE.out], ?_, K0.out.far (by simp <;> omega) _, K1.out.far (by simp <;> omega) _, K2.out.far (by simp <;> omega) _, ?_, KB.out.setCell (by simp <;> omega) _⟩
              · have hs := (inn_step (VV a b i) x b i k c hx2 HI.out).1
                rw [HY.out, HV.out] at hs
                rw [HX.out]
                exact hs
              · rw [HX.out, ← arr8_ext _ _ (fun j _ => mix_step (VV a b i) x b i k c l2 hx2 HI.out (by rw [HY.out, HV.out]; exact HLE.out.symm) j), ← arr8_set _ (i + k) (by omega)]
                exact K3.out.set_ (i + k) _
            case measure => simp [intOf] <;> omega
        · obtain rfl : k = 4 := by omega
          have a3 : wr.cell? ⟨w.heap.size + 3, i + 4, none⟩ = some (.int .u64 (mix (VV a b i) (wd a i) b i 4 (i + 4))) := by rw [b3.cell, arr8_get _ (i + 4) (by omega)]
          have f3 : wr.frozen? ⟨w.heap.size + 3, i + 4, none⟩ = false := b3.frozen _
          have HI := Lib.hid hinn
          have K0 := Lib.hid b0
          have K1 := Lib.hid b1
          have K2 := Lib.hid b2
          have K3 := Lib.hid b3
          have KB := Lib.hid hbl
          clear hinn b0 b1 b2 b3 hbl
          go_wp2_with fail
          go_roundw
          case rel =>
            refine ⟨i + 1, by omega, by go_num, K0.out.far (by simp <;> omega) _, K1.out.far (by simp <;> omega) _, K2.out.far (by simp <;> omega) _, ?_, KB.out.setCell (by simp <;> omega) _⟩
            rw [← arr8_ext _ _ (fun j _ => mix_end a b i c HB.out HI.out j), ← arr8_set _ (i + 4) (by omega)]
            exact K3.out.set_ (i + 4) _
          case measure => simp [intOf] <;> omega
    · obtain rfl : i = 4 := by omega
      have hab : VV a b 4 = a * b := by unfold VV; rw [show pw 4 = 2 ^ 256 from rfl, Nat.mod_eq_of_lt HA.out]
      rw [hab] at b3
      have K2 := Lib.hid b2
      have KB := Lib.hid hbl
      have c0 := b3.cell 0
      have c1 := b3.cell 1
      have c2 := b3.cell 2
      have c3 := b3.cell 3
      have c4 := b3.cell 4
      have c5 := b3.cell 5
      have c6 := b3.cell 6
      have c7 := b3.cell 7
      have d0 := b2.cell 0
      have d1 := b2.cell 1
      have d2 := b2.cell 2
      have d3 := b2.cell 3
      have d4 := b2.cell 4
      have d5 := b2.cell 5
      have d6 := b2.cell 6
      have d7 := b2.cell 7
      have f0 := b2.frozen 0
      have f1 := b2.frozen 1
      have f2 := b2.frozen 2
      have f3 := b2.frozen 3
      have f4 := b2.frozen 4
      have f5 := b2.frozen 5
      have f6 := b2.frozen 6
      have f7 := b2.frozen 7
      clear b0 b1 b2 b3 hbl hab
      go_wp2
      refine bodyPost_ret (results_c8 rfl rfl (K2.out.fill8 _ _ _ _ _ _ _ _) rfl) rfl ⟨rfl, (((((((KB.out.setCell (by simp <;> omega) _).setCell (by simp <;> omega) _).setCell (by simp <;> omega) _).setCell (by simp <;> omega) _).setCell (by simp <;> omega) _).setCell (by simp <;> omega) _).setCell (by simp <;> omega) _).setCell (by simp <;> omega) _⟩
end Go.Proofs.Ytmpejkhffbonnaa
