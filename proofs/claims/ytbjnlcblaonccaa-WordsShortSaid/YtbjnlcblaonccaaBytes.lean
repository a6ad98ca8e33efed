/- The contracts of package bytes. -/
import Derived.Test.YtbjnlcblaonccaaApp
namespace Go.Proofs.Ytbjnlcblaonccaa
open Go.RowKit
set_option maxRecDepth 10000

theorem inf_u8_5 : Inf Try.prog 5 (.int .u8 0) 1 1 := inf_of (by kernel_rfl)
theorem clone_c (ad : Option Addr) (nl c : Nat) (l : List UInt8) (hlen : l.length ≤ 100000) (w0 : World) (Z : Nat → Prop) (hl : ByV w0 Z (.slice ad nl c) l): Calls Try.prog 28 #[.slice ad nl c] w0 fun e w' => Ret w0 Z (ρ := Option Addr × Nat) (fun r => .slice r.1 l.length r.2) (fun r => [.cel (.slice r.1 l.length r.2) l.length (bcs l)]) e w' := by
  obtain rfl := byv_len hl
  refine enterS (n := 8) (args := [.slice ad l.length c]) (S := [(true, .cel (.slice ad l.length c) l.length (bcs l))]) (Z := Z) Try.func28 rfl rfl (Nat.le_of_ble_eq_true rfl) (sokC hl sok0) rfl fun ac hs => ?_
  refine wp_seq ?_
  refine wp_region_lit ?_
  refine lstep (wpO_plain rfl (op_assign hs none rfl rfl rfl rfl fun ac hs => ?_))
  refine wpList_nil ?_
  refine then_n ?_
  refine wp_seq ?_
  refine wp_seq ?_
  refine wp_region_lit ?_
  refine lstep (wpO_plain rfl (op_move hs none rfl rfl rfl rfl fun ac hs => ?_))
  refine lstep (wpO_plain rfl (op_bin hs none (v := .bool ad.isNone) rfl rfl rfl rfl (fun _ => rfl) (bin_eqlNil Try.underlying22) rfl fun ac hs => ?_))
  refine wpList_nil ?_
  refine then_n ?_
  refine wp_cond_split (hs.ev rfl) (fun hc => ?_) (fun hc => ?_)
  · skip
    refine wp_seq ?_
    refine wp_region_lit ?_
    refine lstep (wpO_plain rfl (op_assign hs none rfl rfl rfl rfl fun ac hs => ?_))
    refine wpList_nil ?_
    refine then_n ?_
    refine wp_ret ?_
    refine then_r ?_
    exact bodyPost_ret (res1 rfl (rv_t hs rfl)) hs.defers ⟨⟨none, 0⟩, congrArg Ending.returned (ret_nil (byv_none hl hc)), hs.bel rfl, okl_nil (byv_none hl hc)⟩
  · skip
    refine wp_skip ?_
    refine then_n ?_
    refine wp_seq ?_
    refine wp_region_lit ?_
    refine lstep (wpO_plain rfl (op_bsO0 hs none none (size := 1) rfl rfl Try.underlying22 inf_u8_5 rfl rfl fun ad2 ac w hs => ?_))
    refine lstep (wpO_plain rfl (op_move hs none rfl rfl rfl rfl fun ac hs => ?_))
    refine lstep (wpO_plain rfl (op_appR hs none 1 0 (N' := l.length) (ys := bcs l) rfl rfl rfl rfl rfl rfl Try.underlying22 inf_u8_5 rfl (by decide) (bcs_len1 rfl) (bcs_one _) (by decide) (show 0 + l.length ≤ 1000000 by omega) (Nat.zero_add _) rfl rfl rfl fun ad3 cp4 ac w hs => ?_))
    refine lstep (wpO_plain rfl (op_assign hs none rfl rfl rfl rfl fun ac hs => ?_))
    refine wpList_nil ?_
    refine then_n ?_
    refine wp_ret ?_
    replace hs := hs.freeze 1 rfl
    exact bodyPost_ret (res1 rfl (rv_t hs rfl)) hs.defers ⟨⟨ad3, cp4⟩, rfl, hs.bel rfl, hs.ret1 1 rfl⟩
theorem bequal_c (a1 : Option Addr) (nl c1 : Nat) (l : List UInt8) (a2 : Option Addr) (nk c2 : Nat) (k : List UInt8) (q : Bool) (hq : decide (l = k) = q) (w0 : World) (Z : Nat → Prop) (hl : ByV w0 Z (.slice a1 nl c1) l) (hk : ByV w0 Z (.slice a2 nk c2) k): Calls Try.prog 30 #[.slice a1 nl c1, .slice a2 nk c2] w0 fun e w' => Ret w0 Z (ρ := Unit) (fun r => .bool q) (fun r => []) e w' := by
  obtain rfl := byv_len hl
  obtain rfl := byv_len hk
  refine enterS (n := 10) (args := [.slice a1 l.length c1, .slice a2 k.length c2]) (S := [(true, .cel (.slice a1 l.length c1) l.length (bcs l)), (true, .cel (.slice a2 k.length c2) k.length (bcs k))]) (Z := Z) Try.func30 rfl rfl (Nat.le_of_ble_eq_true rfl) (sokC hl (sokC hk sok0)) rfl fun ac hs => ?_
  refine wp_seq ?_
  refine wp_region_lit ?_
  refine lstep (wpO_plain rfl (op_assign hs none rfl rfl rfl rfl fun ac hs => ?_))
  refine wpList_nil ?_
  refine then_n ?_
  refine wp_seq ?_
  refine wp_region_lit ?_
  refine lstep (wpO_plain rfl (op_move hs none rfl rfl rfl rfl fun ac hs => ?_))
  refine lstep (wpO_plain rfl (op_convBS hs none 0 rfl rfl rfl rfl rfl Try.underlying22 Try.underlying5 Try.underlying9 rfl fun ac hs => ?_))
  refine lstep (wpO_plain rfl (op_move hs none rfl rfl rfl rfl fun ac hs => ?_))
  refine lstep (wpO_plain rfl (op_convBS hs none 1 rfl rfl rfl rfl rfl Try.underlying22 Try.underlying5 Try.underlying9 rfl fun ac hs => ?_))
  refine lstep (wpO_plain rfl (op_bin hs none (v := .bool (decide (l = k))) rfl rfl rfl rfl (fun _ => rfl) (bin_eqlT rfl) rfl fun ac hs => ?_))
  refine lstep (wpO_plain rfl (op_assign hs none rfl rfl rfl rfl fun ac hs => ?_))
  refine wpList_nil ?_
  refine then_n ?_
  refine wp_ret ?_
  exact bodyPost_ret (res1 rfl (rv_t hs rfl)) hs.defers ⟨(), by rw [← hq], hs.bel rfl, okl0⟩
end Go.Proofs.Ytbjnlcblaonccaa
