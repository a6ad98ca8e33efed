/- The laws of words. -/
import Derived.Test.YtbjnlcblaonccaaWLw0
namespace Go.Proofs.Ytbjnlcblaonccaa
open Go.RowKit
set_option maxRecDepth 10000

theorem build_law (ad : Option Addr) (c : Nat) (ws : List Wd) (vs : List Value) (h256 : ∀ x ∈ ws, x.1 < 256) (w0 : World) (Z : Nat → Prop) (hws : CelV w0 Z (.slice ad ws.length c) ws.length (wcl ws vs)) (hbws : BysV w0 Z vs (ws.map Prod.snd)): Calls Try.prog 5 #[.slice ad ws.length c] w0 fun e w' => Ret w0 Z (ρ := Unit) (fun r => .bool true) (fun r => []) e w' := by
  refine enterS (n := 34) (args := [.slice ad ws.length c]) (S := [(true, .cel (.slice ad ws.length c) ws.length (wcl ws vs)), (true, .bys vs (ws.map Prod.snd))]) (Z := Z) Try.func5 rfl rfl (Nat.le_of_ble_eq_true rfl) (sokC hws (sokC hbws sok0)) rfl fun ac hs => ?_
  refine wp_seq ?_
  refine wp_region_lit ?_
  refine lstep (wpO_plain rfl (op_assign hs none rfl rfl rfl rfl fun ac hs => ?_))
  refine wpList_nil ?_
  refine then_n ?_
  refine wp_seq ?_
  refine wp_seq ?_
  refine wp_region_lit ?_
  refine lstep (wpO_plain rfl (op_move hs none rfl rfl rfl rfl fun ac hs => ?_))
  obtain ⟨q1, hq1⟩ : ∃ z0, smallQ ws = z0 := ⟨_, rfl⟩
  refine lstep (wpO_plain rfl (op_callS (F := 24) (ρ := Unit) hs none none (v := fun r => .bool q1) (E := fun r => []) (j := 0) rfl rfl rfl rfl (Try.call24 _) (fun hs => small_c ad c ws vs q1 hq1 h256 _ _ (hs.all (k := 0) rfl rfl) (hs.all (k := 1) rfl rfl)) (fun _ => rfl) rfl rfl fun _ ac w hs => ?_))
  refine lstep (wpO_plain rfl (op_un hs none (v := .bool (!q1)) rfl rfl rfl (fun _ => rfl) rfl fun ac hs => ?_))
  refine wpList_nil ?_
  refine then_n ?_
  refine wp_cond_split (hs.ev rfl) (fun hc => ?_) (fun hc => ?_)
  · skip
    refine wp_seq ?_
    refine wp_region_lit ?_
    refine lstep (wpO_plain rfl (op_callS (F := 9) (ρ := Unit) hs none none (v := fun r => .bool true) (E := fun r => []) (j := 0) rfl rfl rfl rfl (Try.call9 _) (fun hs => alive_c _ _) (fun _ => rfl) rfl rfl fun _ ac w hs => ?_))
    refine lstep (wpO_plain rfl (op_assign hs none rfl rfl rfl rfl fun ac hs => ?_))
    refine wpList_nil ?_
    refine then_n ?_
    refine wp_ret ?_
    refine then_r ?_
    exact bodyPost_ret (res1 rfl (rv_t hs rfl)) hs.defers ⟨(), rfl, hs.bel rfl, okl0⟩
  · skip
    have hsm := smallQ_small (hq1.trans (by simpa using hc)) h256
    have hsm1 := hsm.1
    have hs40 := smallQ_len (hq1.trans (by simpa using hc))
    refine wp_skip ?_
    refine then_n ?_
    refine wp_seq ?_
    refine wp_region_lit ?_
    refine lstep (wpO_plain rfl (op_move hs none rfl rfl rfl rfl fun ac hs => ?_))
    obtain ⟨b2, er3, hb2⟩ : ∃ z0 z1, BW ws = (z0, z1) := ⟨_, _, rfl⟩
    have lb2 := BW_len hsm hb2
    refine lstep (wpO_plain rfl (op_callS (F := 25) (ρ := Option Addr × Nat) hs none none (v := fun r => .tuple #[.slice r.1 b2.length r.2, .int .i64 ((er3 : Nat) : Int)]) (E := fun r => [.cel (.slice r.1 b2.length r.2) b2.length (bcs b2)]) (j := 1) rfl rfl rfl rfl (Try.call25 _) (fun hs => build_c ad c ws vs b2 er3 hsm hb2 _ _ (hs.all (k := 0) rfl rfl) (hs.all (k := 1) rfl rfl)) (fun _ => rfl) rfl rfl fun ⟨ad4, cp5⟩ ac w hs => ?_))
    refine lstep (wpO_plain rfl (op_move hs none rfl rfl rfl rfl fun ac hs => ?_))
    refine lstep (wpO_plain rfl (op_extract hs none rfl rfl rfl rfl rfl fun ac hs => ?_))
    refine lstep (wpO_plain rfl (op_extract hs none rfl rfl rfl rfl rfl fun ac hs => ?_))
    refine lstep (wpO_plain rfl (op_assign hs none rfl rfl rfl rfl fun ac hs => ?_))
    refine lstep (wpO_plain rfl (op_assign hs none rfl rfl rfl rfl fun ac hs => ?_))
    refine wpList_nil ?_
    refine then_n ?_
    refine wp_seq ?_
    replace hs : St 34 ⟨w0, [], [(true, .cel (.slice ad ws.length c) ws.length (wcl ws vs)), (true, .bys vs (ws.map Prod.snd)), (true, .cel (.slice ad4 b2.length cp5) b2.length (bcs b2))], Z, noX⟩ [(0, true, .slice ad ws.length c), (2, true, .bool false), (3, true, .slice ad4 b2.length cp5), (4, true, .int .i64 ((er3 : Nat) : Int))] [] ac _ := hs.re ⟨rfl, rfl, rfl, rfl, trivial⟩
    refine wp_region_lit ?_
    refine lstep (wpO_plain rfl (op_move hs none rfl rfl rfl rfl fun ac hs => ?_))
    refine lstep (wpO_plain rfl (op_callS (F := 26) (ρ := Option Addr × Nat) hs none none (v := fun r => .tuple #[.slice r.1 b2.length r.2, .int .i64 ((er3 : Nat) : Int)]) (E := fun r => [.cel (.slice r.1 b2.length r.2) b2.length (bcs b2)]) (j := 1) rfl rfl rfl rfl (Try.call26 _) (fun hs => rbuild_c ad c ws vs b2 er3 hsm hb2 _ _ (hs.all (k := 0) rfl rfl) (hs.all (k := 1) rfl rfl)) (fun _ => rfl) rfl rfl fun ⟨ad6, cp7⟩ ac w hs => ?_))
    refine lstep (wpO_plain rfl (op_move hs none rfl rfl rfl rfl fun ac hs => ?_))
    refine lstep (wpO_plain rfl (op_extract hs none rfl rfl rfl rfl rfl fun ac hs => ?_))
    refine lstep (wpO_plain rfl (op_extract hs none rfl rfl rfl rfl rfl fun ac hs => ?_))
    refine lstep (wpO_plain rfl (op_assign hs none rfl rfl rfl rfl fun ac hs => ?_))
    refine lstep (wpO_plain rfl (op_assign hs none rfl rfl rfl rfl fun ac hs => ?_))
    refine wpList_nil ?_
    refine then_n ?_
    refine wp_seq ?_
    replace hs : St 34 ⟨w0, [], [(true, .cel (.slice ad ws.length c) ws.length (wcl ws vs)), (true, .bys vs (ws.map Prod.snd)), (true, .cel (.slice ad4 b2.length cp5) b2.length (bcs b2)), (true, .cel (.slice ad6 b2.length cp7) b2.length (bcs b2))], Z, noX⟩ [(2, true, .bool false), (3, true, .slice ad4 b2.length cp5), (4, true, .int .i64 ((er3 : Nat) : Int)), (5, true, .slice ad6 b2.length cp7), (6, true, .int .i64 ((er3 : Nat) : Int))] [] ac _ := hs.re ⟨rfl, rfl, rfl, rfl, rfl, trivial⟩
    refine wp_region_lit ?_
    refine lstep (wpO_plain rfl (op_callS (F := 9) (ρ := Unit) hs none none (v := fun r => .bool true) (E := fun r => []) (j := 0) rfl rfl rfl rfl (Try.call9 _) (fun hs => alive_c _ _) (fun _ => rfl) rfl rfl fun _ ac w hs => ?_))
    refine lstep (wpO_plain rfl (op_move hs none rfl rfl rfl rfl fun ac hs => ?_))
    refine lstep (wpO_in hs rfl rfl rfl (op_move hs none rfl rfl rfl rfl fun ac hs => ?_))
    refine lstep (wpO_in hs rfl rfl rfl (op_convBS hs none 2 rfl rfl rfl rfl rfl Try.underlying22 Try.underlying5 Try.underlying9 rfl fun ac hs => ?_))
    refine lstep (wpO_in hs rfl rfl rfl (op_move hs none rfl rfl rfl rfl fun ac hs => ?_))
    refine lstep (wpO_in hs rfl rfl rfl (op_convBS hs none 3 rfl rfl rfl rfl rfl Try.underlying22 Try.underlying5 Try.underlying9 rfl fun ac hs => ?_))
    refine lstep (wpO_in hs rfl rfl rfl (op_bin hs none (v := .bool true) rfl rfl rfl rfl (fun _ => rfl) (bin_eqlT (decide_eq_true rfl)) rfl fun ac hs => ?_))
    refine lstep (wpO_plain rfl (op_pickT hs none rfl rfl rfl rfl rfl fun ac hs => ?_))
    refine lstep (wpO_plain rfl (op_move hs none rfl rfl rfl rfl fun ac hs => ?_))
    refine lstep (wpO_in hs rfl rfl rfl (op_move hs none rfl rfl rfl rfl fun ac hs => ?_))
    refine lstep (wpO_in hs rfl rfl rfl (op_move hs none rfl rfl rfl rfl fun ac hs => ?_))
    refine lstep (wpO_in hs rfl rfl rfl (op_bin hs none (v := .bool true) rfl rfl rfl rfl (fun _ => rfl) (fun w => dT rfl (bin_eqlN (x := er3) (y := er3) w)) rfl fun ac hs => ?_))
    refine lstep (wpO_plain rfl (op_pickT hs none rfl rfl rfl rfl rfl fun ac hs => ?_))
    refine lstep (wpO_plain rfl (op_assign hs none rfl rfl rfl rfl fun ac hs => ?_))
    refine wpList_nil ?_
    refine then_n ?_
    refine wp_ret ?_
    exact bodyPost_ret (res1 rfl (rv_t hs rfl)) hs.defers ⟨(), rfl, hs.bel rfl, okl0⟩
theorem back_law (ad : Option Addr) (c : Nat) (ws : List Wd) (vs : List Value) (h256 : ∀ x ∈ ws, x.1 < 256) (w0 : World) (Z : Nat → Prop) (hws : CelV w0 Z (.slice ad ws.length c) ws.length (wcl ws vs)) (hbws : BysV w0 Z vs (ws.map Prod.snd)): Calls Try.prog 6 #[.slice ad ws.length c] w0 fun e w' => Ret w0 Z (ρ := Unit) (fun r => .bool true) (fun r => []) e w' := by
  refine enterS (n := 43) (args := [.slice ad ws.length c]) (S := [(true, .cel (.slice ad ws.length c) ws.length (wcl ws vs)), (true, .bys vs (ws.map Prod.snd))]) (Z := Z) Try.func6 rfl rfl (Nat.le_of_ble_eq_true rfl) (sokC hws (sokC hbws sok0)) rfl fun ac hs => ?_
  refine wp_seq ?_
  refine wp_region_lit ?_
  refine lstep (wpO_plain rfl (op_assign hs none rfl rfl rfl rfl fun ac hs => ?_))
  refine wpList_nil ?_
  refine then_n ?_
  refine wp_seq ?_
  refine wp_seq ?_
  refine wp_region_lit ?_
  refine lstep (wpO_plain rfl (op_move hs none rfl rfl rfl rfl fun ac hs => ?_))
  obtain ⟨q1, hq1⟩ : ∃ z0, smallQ ws = z0 := ⟨_, rfl⟩
  refine lstep (wpO_plain rfl (op_callS (F := 24) (ρ := Unit) hs none none (v := fun r => .bool q1) (E := fun r => []) (j := 0) rfl rfl rfl rfl (Try.call24 _) (fun hs => small_c ad c ws vs q1 hq1 h256 _ _ (hs.all (k := 0) rfl rfl) (hs.all (k := 1) rfl rfl)) (fun _ => rfl) rfl rfl fun _ ac w hs => ?_))
  refine lstep (wpO_plain rfl (op_un hs none (v := .bool (!q1)) rfl rfl rfl (fun _ => rfl) rfl fun ac hs => ?_))
  refine wpList_nil ?_
  refine then_n ?_
  refine wp_cond_split (hs.ev rfl) (fun hc => ?_) (fun hc => ?_)
  · skip
    refine wp_seq ?_
    refine wp_region_lit ?_
    refine lstep (wpO_plain rfl (op_callS (F := 9) (ρ := Unit) hs none none (v := fun r => .bool true) (E := fun r => []) (j := 0) rfl rfl rfl rfl (Try.call9 _) (fun hs => alive_c _ _) (fun _ => rfl) rfl rfl fun _ ac w hs => ?_))
    refine lstep (wpO_plain rfl (op_assign hs none rfl rfl rfl rfl fun ac hs => ?_))
    refine wpList_nil ?_
    refine then_n ?_
    refine wp_ret ?_
    refine then_r ?_
    exact bodyPost_ret (res1 rfl (rv_t hs rfl)) hs.defers ⟨(), rfl, hs.bel rfl, okl0⟩
  · skip
    have hsm := smallQ_small (hq1.trans (by simpa using hc)) h256
    have hsm1 := hsm.1
    have hs40 := smallQ_len (hq1.trans (by simpa using hc))
    refine wp_skip ?_
    refine then_n ?_
    refine wp_seq ?_
    refine wp_region_lit ?_
    refine lstep (wpO_plain rfl (op_move hs none rfl rfl rfl rfl fun ac hs => ?_))
    obtain ⟨b2, er3, hb2⟩ : ∃ z0 z1, BW ws = (z0, z1) := ⟨_, _, rfl⟩
    have lb2 := BW_len hsm hb2
    refine lstep (wpO_plain rfl (op_callS (F := 25) (ρ := Option Addr × Nat) hs none none (v := fun r => .tuple #[.slice r.1 b2.length r.2, .int .i64 ((er3 : Nat) : Int)]) (E := fun r => [.cel (.slice r.1 b2.length r.2) b2.length (bcs b2)]) (j := 1) rfl rfl rfl rfl (Try.call25 _) (fun hs => build_c ad c ws vs b2 er3 hsm hb2 _ _ (hs.all (k := 0) rfl rfl) (hs.all (k := 1) rfl rfl)) (fun _ => rfl) rfl rfl fun ⟨ad4, cp5⟩ ac w hs => ?_))
    refine lstep (wpO_plain rfl (op_move hs none rfl rfl rfl rfl fun ac hs => ?_))
    refine lstep (wpO_plain rfl (op_extract hs none rfl rfl rfl rfl rfl fun ac hs => ?_))
    refine lstep (wpO_plain rfl (op_extract hs none rfl rfl rfl rfl rfl fun ac hs => ?_))
    refine lstep (wpO_plain rfl (op_assign hs none rfl rfl rfl rfl fun ac hs => ?_))
    refine lstep (wpO_plain rfl (op_assign hs none rfl rfl rfl rfl fun ac hs => ?_))
    refine wpList_nil ?_
    refine then_n ?_
    refine wp_seq ?_
    refine wp_seq ?_
    replace hs : St 43 ⟨w0, [], [(true, .cel (.slice ad ws.length c) ws.length (wcl ws vs)), (true, .bys vs (ws.map Prod.snd)), (true, .cel (.slice ad4 b2.length cp5) b2.length (bcs b2))], Z, noX⟩ [(0, true, .slice ad ws.length c), (2, true, .bool false), (3, true, .slice ad4 b2.length cp5), (4, true, .int .i64 ((er3 : Nat) : Int))] [] ac _ := hs.re ⟨rfl, rfl, rfl, rfl, trivial⟩
    refine wp_region_lit ?_
    refine lstep (wpO_plain rfl (op_move hs none rfl rfl rfl rfl fun ac hs => ?_))
    refine lstep (wpO_plain rfl (op_bin hs none (v := .bool (decide (er3 ≠ 0))) rfl rfl rfl rfl (fun _ => rfl) (bin_neqN (x := er3) (y := 0)) rfl fun ac hs => ?_))
    refine wpList_nil ?_
    refine then_n ?_
    refine wp_cond_split (hs.ev rfl) (fun hc => ?_) (fun hc => ?_)
    · skip
      have hp6 := of_decide_eq_true hc
      have hbe := BW_er hb2 (of_decide_eq_true hc)
      refine wp_seq ?_
      refine wp_region_lit ?_
      refine lstep (wpO_plain rfl (op_callS (F := 9) (ρ := Unit) hs none none (v := fun r => .bool true) (E := fun r => []) (j := 0) rfl rfl rfl rfl (Try.call9 _) (fun hs => alive_c _ _) (fun _ => rfl) rfl rfl fun _ ac w hs => ?_))
      refine lstep (wpO_plain rfl (op_move hs none rfl rfl rfl rfl fun ac hs => ?_))
      refine lstep (wpO_in hs rfl rfl rfl (op_move hs none rfl rfl rfl rfl fun ac hs => ?_))
      refine lstep (wpO_in hs rfl rfl rfl (op_bin hs none (v := .bool true) rfl rfl rfl rfl (fun _ => rfl) (fun w => dT hbe.1 (bin_eqlN (x := er3) (y := 1) w)) rfl fun ac hs => ?_))
      refine lstep (wpO_plain rfl (op_pickT hs none rfl rfl rfl rfl rfl fun ac hs => ?_))
      refine lstep (wpO_plain rfl (op_move hs none rfl rfl rfl rfl fun ac hs => ?_))
      refine lstep (wpO_in hs rfl rfl rfl (op_move hs none rfl rfl rfl rfl fun ac hs => ?_))
      refine lstep (wpO_in hs rfl rfl rfl (op_blt hs none (v := .int .i64 ((b2.length : Nat) : Int)) rfl rfl rfl (blt_len Try.underlying22) rfl fun ac hs => ?_))
      refine lstep (wpO_in hs rfl rfl rfl (op_bin hs none (v := .bool true) rfl rfl rfl rfl (fun _ => rfl) (fun w => dT (by rw [hbe.2]; rfl) (bin_eqlN (x := b2.length) (y := 0) w)) rfl fun ac hs => ?_))
      refine lstep (wpO_plain rfl (op_pickT hs none rfl rfl rfl rfl rfl fun ac hs => ?_))
      refine lstep (wpO_plain rfl (op_assign hs none rfl rfl rfl rfl fun ac hs => ?_))
      refine wpList_nil ?_
      refine then_n ?_
      refine wp_ret ?_
      refine then_r ?_
      exact bodyPost_ret (res1 rfl (rv_t hs rfl)) hs.defers ⟨(), rfl, hs.bel rfl, okl0⟩
    · skip
      have hp7 := of_decide_eq_false hc
      have her : er3 = 0 := by simpa using hc
      have hB0 : BW ws = (b2, 0) := by rw [hb2, her]
      refine wp_skip ?_
      refine then_n ?_
      refine wp_seq ?_
      refine wp_region_lit ?_
      refine lstep (wpO_plain rfl (op_move hs none rfl rfl rfl rfl fun ac hs => ?_))
      refine lstep (wpO_plain rfl (op_callS (F := 12) (ρ := Option Addr × Nat × List Value) hs none none (v := fun r => .tuple #[.slice r.1 ws.length r.2.1, .int .i64 0]) (E := fun r => [.cel (.slice r.1 ws.length r.2.1) ws.length (wcl ws r.2.2), .bys r.2.2 (ws.map Prod.snd)]) (j := 2) rfl rfl rfl rfl (Try.call12 _) (fun hs => all_c ad4 b2.length cp5 b2 ws 0 (show b2.length ≤ 100000 by omega) (AW_bld h256 hB0) _ _ (hs.all (k := 2) rfl rfl)) (fun _ => rfl) rfl rfl fun ⟨ad8, cp9, vs10⟩ ac w hs => ?_))
      refine lstep (wpO_plain rfl (op_move hs none rfl rfl rfl rfl fun ac hs => ?_))
      refine lstep (wpO_plain rfl (op_extract hs none rfl rfl rfl rfl rfl fun ac hs => ?_))
      refine lstep (wpO_plain rfl (op_extract hs none rfl rfl rfl rfl rfl fun ac hs => ?_))
      refine lstep (wpO_plain rfl (op_assign hs none rfl rfl rfl rfl fun ac hs => ?_))
      refine lstep (wpO_plain rfl (op_assign hs none rfl rfl rfl rfl fun ac hs => ?_))
      refine wpList_nil ?_
      refine then_n ?_
      refine wp_seq ?_
      replace hs : St 43 ⟨w0, [], [(true, .cel (.slice ad ws.length c) ws.length (wcl ws vs)), (true, .bys vs (ws.map Prod.snd)), (true, .cel (.slice ad4 b2.length cp5) b2.length (bcs b2)), (true, .cel (.slice ad8 ws.length cp9) ws.length (wcl ws vs10)), (true, .bys vs10 (ws.map Prod.snd))], Z, noX⟩ [(0, true, .slice ad ws.length c), (2, true, .bool false), (5, true, .slice ad8 ws.length cp9), (6, true, .int .i64 0)] [] ac _ := hs.re ⟨rfl, rfl, rfl, rfl, trivial⟩
      refine wp_region_lit ?_
      refine lstep (wpO_plain rfl (op_callS (F := 9) (ρ := Unit) hs none none (v := fun r => .bool true) (E := fun r => []) (j := 0) rfl rfl rfl rfl (Try.call9 _) (fun hs => alive_c _ _) (fun _ => rfl) rfl rfl fun _ ac w hs => ?_))
      refine lstep (wpO_plain rfl (op_move hs none rfl rfl rfl rfl fun ac hs => ?_))
      refine lstep (wpO_in hs rfl rfl rfl (op_move hs none rfl rfl rfl rfl fun ac hs => ?_))
      refine lstep (wpO_in hs rfl rfl rfl (op_bin hs none (v := .bool true) rfl rfl rfl rfl (fun _ => rfl) (fun _ => by kernel_rfl) rfl fun ac hs => ?_))
      refine lstep (wpO_plain rfl (op_pickT hs none rfl rfl rfl rfl rfl fun ac hs => ?_))
      refine lstep (wpO_plain rfl (op_move hs none rfl rfl rfl rfl fun ac hs => ?_))
      refine lstep (wpO_in hs rfl rfl rfl (op_move hs none rfl rfl rfl rfl fun ac hs => ?_))
      refine lstep (wpO_in hs rfl rfl rfl (op_move hs none rfl rfl rfl rfl fun ac hs => ?_))
      refine lstep (wpO_in hs rfl rfl rfl (op_callU (F := 15) (ρ := Unit) hs none (v := fun r => .bool true) rfl rfl rfl rfl (Try.call15 _) (fun hs => sames_c ad c ws vs ad8 cp9 ws vs10 true (show ws.length ≤ 100000 by omega) (show ws.length ≤ 100000 by omega) (decide_eq_true rfl) _ _ (hs.row (k := 0) rfl) (hs.rowB (k := 1) (G := noX) (.inr rfl)) (hs.row (k := 3) rfl) (hs.rowB (k := 4) (G := noX) (.inr rfl))) rfl fun _ ac w hs => ?_))
      refine lstep (wpO_plain rfl (op_pickT hs none rfl rfl rfl rfl rfl fun ac hs => ?_))
      refine lstep (wpO_plain rfl (op_assign hs none rfl rfl rfl rfl fun ac hs => ?_))
      refine wpList_nil ?_
      refine then_n ?_
      refine wp_ret ?_
      exact bodyPost_ret (res1 rfl (rv_t hs rfl)) hs.defers ⟨(), rfl, hs.bel rfl, okl0⟩
theorem push_law (a1 : Option Addr) (c1 : Nat) (l : List UInt8) (o : Nat) (a2 : Option Addr) (c2 : Nat) (p : List UInt8) (ho : o < 256) (n : Int) (hn1 : -9223372036854775808 ≤ n) (hn2 : n < 9223372036854775808) (w0 : World) (Z : Nat → Prop) (hl : ByV w0 Z (.slice a1 l.length c1) l) (hp : ByV w0 Z (.slice a2 p.length c2) p): Calls Try.prog 4 #[.slice a1 l.length c1, .agg #[.int .u8 ((o : Nat) : Int), .slice a2 p.length c2], .int .i64 n] w0 fun e w' => Ret w0 Z (ρ := Unit) (fun r => .bool true) (fun r => []) e w' := by
  refine enterS (n := 65) (args := [.slice a1 l.length c1, .agg #[.int .u8 ((o : Nat) : Int), .slice a2 p.length c2], .int .i64 n]) (S := [(true, .cel (.slice a1 l.length c1) l.length (bcs l)), (true, .cel (.slice a2 p.length c2) p.length (bcs p))]) (Z := Z) Try.func4 rfl rfl (Nat.le_of_ble_eq_true rfl) (sokC hl (sokC hp sok0)) rfl fun ac hs => ?_
  refine wp_seq ?_
  refine wp_region_lit ?_
  refine lstep (wpO_plain rfl (op_box hs none none (cs := [.int .u8 ((o : Nat) : Int), .slice a2 p.length c2]) rfl rfl rfl rfl rfl rfl fun g1 ac w hs => ?_))
  refine lstep (wpO_plain rfl (op_assign hs none rfl rfl rfl rfl fun ac hs => ?_))
  refine wpList_nil ?_
  refine then_n ?_
  refine wp_seq ?_
  refine wp_seq ?_
  by_cases hq2 : 400 < l.length
  · skip
    refine wp_region_lit ?_
    refine lstep (wpO_plain rfl (op_move hs none rfl rfl rfl rfl fun ac hs => ?_))
    refine lstep (wpO_plain rfl (op_blt hs none (v := .int .i64 ((l.length : Nat) : Int)) rfl rfl rfl (blt_len Try.underlying22) rfl fun ac hs => ?_))
    refine lstep (wpO_plain rfl (op_bin hs none (v := .bool true) rfl rfl rfl rfl (fun _ => rfl) (fun w => dT hq2 (bin_gtrN (x := l.length) (y := 400) w)) rfl fun ac hs => ?_))
    refine lstep (wpO_plain rfl (op_move hs none rfl rfl rfl rfl fun ac hs => ?_))
    refine lstep (wpO_out hs none rfl rfl (.inl rfl) rfl rfl fun ac hs => ?_)
    refine lstep (wpO_out hs none rfl rfl (.inl rfl) rfl rfl fun ac hs => ?_)
    refine lstep (wpO_out hs none rfl rfl (.inl rfl) rfl rfl fun ac hs => ?_)
    refine lstep (wpO_out hs none rfl rfl (.inl rfl) rfl rfl fun ac hs => ?_)
    refine lstep (wpO_plain rfl (op_pickT hs none rfl rfl rfl rfl rfl fun ac hs => ?_))
    refine wpList_nil ?_
    refine then_n ?_
    refine wp_cond_true (hs.ev rfl) ?_
    refine wp_seq ?_
    replace hs : St 65 ⟨w0, [], [(true, .cel (.slice a1 l.length c1) l.length (bcs l)), (true, .cel (.slice a2 p.length c2) p.length (bcs p))], Z, noX⟩ [(0, true, .slice a1 l.length c1), (2, true, .int .i64 n), (4, true, .pointer (some ⟨g1, 0, none⟩)), (6, true, .bool false)] [(true, g1, 25, [.int .u8 ((o : Nat) : Int), .slice a2 p.length c2])] ac _ := hs.re ⟨rfl, rfl, rfl, rfl, trivial⟩
    refine wp_region_lit ?_
    refine lstep (wpO_plain rfl (op_callS (F := 9) (ρ := Unit) hs none none (v := fun r => .bool true) (E := fun r => []) (j := 0) rfl rfl rfl rfl (Try.call9 _) (fun hs => alive_c _ _) (fun _ => rfl) rfl rfl fun _ ac w hs => ?_))
    refine lstep (wpO_plain rfl (op_assign hs none rfl rfl rfl rfl fun ac hs => ?_))
    refine wpList_nil ?_
    refine then_n ?_
    refine wp_ret ?_
    refine then_r ?_
    exact bodyPost_ret (res1 rfl (rv_t hs rfl)) hs.defers ⟨(), rfl, hs.bel rfl, okl0⟩
  · skip
    by_cases hq3 : 400 < p.length
    · skip
      refine wp_region_lit ?_
      refine lstep (wpO_plain rfl (op_move hs none rfl rfl rfl rfl fun ac hs => ?_))
      refine lstep (wpO_plain rfl (op_blt hs none (v := .int .i64 ((l.length : Nat) : Int)) rfl rfl rfl (blt_len Try.underlying22) rfl fun ac hs => ?_))
      refine lstep (wpO_plain rfl (op_bin hs none (v := .bool false) rfl rfl rfl rfl (fun _ => rfl) (fun w => dF hq2 (bin_gtrN (x := l.length) (y := 400) w)) rfl fun ac hs => ?_))
      refine lstep (wpO_plain rfl (op_move hs none rfl rfl rfl rfl fun ac hs => ?_))
      refine lstep (wpO_in hs rfl rfl rfl (op_fieldA hs none rfl rfl rfl Try.underlying25 rfl Try.sizeOf22 (by decide) rfl fun ac hs => ?_))
      refine lstep (wpO_in hs rfl rfl rfl (op_load hs none 0 (v := .slice a2 p.length c2) rfl rfl rfl rfl Try.isAgg22 Try.sizeOf22 rfl rfl fun ac hs => ?_))
      refine lstep (wpO_in hs rfl rfl rfl (op_blt hs none (v := .int .i64 ((p.length : Nat) : Int)) rfl rfl rfl (blt_len Try.underlying22) rfl fun ac hs => ?_))
      refine lstep (wpO_in hs rfl rfl rfl (op_bin hs none (v := .bool true) rfl rfl rfl rfl (fun _ => rfl) (fun w => dT hq3 (bin_gtrN (x := p.length) (y := 400) w)) rfl fun ac hs => ?_))
      refine lstep (wpO_plain rfl (op_pickF hs none rfl rfl rfl rfl rfl fun ac hs => ?_))
      refine wpList_nil ?_
      refine then_n ?_
      refine wp_cond_true (hs.ev rfl) ?_
      refine wp_seq ?_
      replace hs : St 65 ⟨w0, [], [(true, .cel (.slice a1 l.length c1) l.length (bcs l)), (true, .cel (.slice a2 p.length c2) p.length (bcs p))], Z, noX⟩ [(0, true, .slice a1 l.length c1), (2, true, .int .i64 n), (4, true, .pointer (some ⟨g1, 0, none⟩)), (6, true, .bool false)] [(true, g1, 25, [.int .u8 ((o : Nat) : Int), .slice a2 p.length c2])] ac _ := hs.re ⟨rfl, rfl, rfl, rfl, trivial⟩
      refine wp_region_lit ?_
      refine lstep (wpO_plain rfl (op_callS (F := 9) (ρ := Unit) hs none none (v := fun r => .bool true) (E := fun r => []) (j := 0) rfl rfl rfl rfl (Try.call9 _) (fun hs => alive_c _ _) (fun _ => rfl) rfl rfl fun _ ac w hs => ?_))
      refine lstep (wpO_plain rfl (op_assign hs none rfl rfl rfl rfl fun ac hs => ?_))
      refine wpList_nil ?_
      refine then_n ?_
      refine wp_ret ?_
      refine then_r ?_
      exact bodyPost_ret (res1 rfl (rv_t hs rfl)) hs.defers ⟨(), rfl, hs.bel rfl, okl0⟩
    · skip
      refine wp_region_lit ?_
      refine lstep (wpO_plain rfl (op_move hs none rfl rfl rfl rfl fun ac hs => ?_))
      refine lstep (wpO_plain rfl (op_blt hs none (v := .int .i64 ((l.length : Nat) : Int)) rfl rfl rfl (blt_len Try.underlying22) rfl fun ac hs => ?_))
      refine lstep (wpO_plain rfl (op_bin hs none (v := .bool false) rfl rfl rfl rfl (fun _ => rfl) (fun w => dF hq2 (bin_gtrN (x := l.length) (y := 400) w)) rfl fun ac hs => ?_))
      refine lstep (wpO_plain rfl (op_move hs none rfl rfl rfl rfl fun ac hs => ?_))
      refine lstep (wpO_in hs rfl rfl rfl (op_fieldA hs none rfl rfl rfl Try.underlying25 rfl Try.sizeOf22 (by decide) rfl fun ac hs => ?_))
      refine lstep (wpO_in hs rfl rfl rfl (op_load hs none 0 (v := .slice a2 p.length c2) rfl rfl rfl rfl Try.isAgg22 Try.sizeOf22 rfl rfl fun ac hs => ?_))
      refine lstep (wpO_in hs rfl rfl rfl (op_blt hs none (v := .int .i64 ((p.length : Nat) : Int)) rfl rfl rfl (blt_len Try.underlying22) rfl fun ac hs => ?_))
      refine lstep (wpO_in hs rfl rfl rfl (op_bin hs none (v := .bool false) rfl rfl rfl rfl (fun _ => rfl) (fun w => dF hq3 (bin_gtrN (x := p.length) (y := 400) w)) rfl fun ac hs => ?_))
      refine lstep (wpO_plain rfl (op_pickF hs none rfl rfl rfl rfl rfl fun ac hs => ?_))
      refine wpList_nil ?_
      refine then_n ?_
      refine wp_cond_false (hs.ev rfl) ?_
      refine wp_skip ?_
      refine then_n ?_
      refine wp_seq ?_
      replace hs : St 65 ⟨w0, [], [(true, .cel (.slice a1 l.length c1) l.length (bcs l)), (true, .cel (.slice a2 p.length c2) p.length (bcs p))], Z, noX⟩ [(0, true, .slice a1 l.length c1), (2, true, .int .i64 n), (4, true, .pointer (some ⟨g1, 0, none⟩)), (6, true, .bool false)] [(true, g1, 25, [.int .u8 ((o : Nat) : Int), .slice a2 p.length c2])] ac _ := hs.re ⟨rfl, rfl, rfl, rfl, trivial⟩
      refine wp_region_lit ?_
      refine lstep (wpO_plain rfl (op_load hs none 0 (v := .agg #[.int .u8 ((o : Nat) : Int), .slice a2 p.length c2]) rfl rfl rfl rfl Try.isAgg25 Try.sizeOf25 rfl rfl fun ac hs => ?_))
      obtain ⟨b4, hb4⟩ : ∃ z0, pshB o p = z0 := ⟨_, rfl⟩
      obtain ⟨q5, hq5⟩ : ∃ z0, pshQ o = z0 := ⟨_, rfl⟩
      have lb4 : b4.length ≤ p.length + 1 := hb4 ▸ pshB_len
      refine lstep (wpO_plain rfl (op_callS (F := 16) (ρ := Option Addr × Nat) hs none none (v := fun r => .tuple #[.slice r.1 b4.length r.2, .bool q5]) (E := fun r => [.cel (.slice r.1 b4.length r.2) b4.length (bcs b4)]) (j := 1) rfl rfl rfl rfl (Try.call16 _) (fun hs => pushes_c o a2 p.length c2 p b4 q5 (show o < 256 by omega) (show p.length ≤ 100000 by omega) hb4 hq5 _ _ (hs.all (k := 1) rfl rfl)) (fun _ => rfl) rfl rfl fun ⟨ad6, cp7⟩ ac w hs => ?_))
      refine lstep (wpO_plain rfl (op_move hs none rfl rfl rfl rfl fun ac hs => ?_))
      refine lstep (wpO_plain rfl (op_extract hs none rfl rfl rfl rfl rfl fun ac hs => ?_))
      refine lstep (wpO_plain rfl (op_extract hs none rfl rfl rfl rfl rfl fun ac hs => ?_))
      refine lstep (wpO_plain rfl (op_assign hs none rfl rfl rfl rfl fun ac hs => ?_))
      refine lstep (wpO_plain rfl (op_assign hs none rfl rfl rfl rfl fun ac hs => ?_))
      refine wpList_nil ?_
      refine then_n ?_
      refine wp_seq ?_
      replace hs : St 65 ⟨w0, [], [(true, .cel (.slice a1 l.length c1) l.length (bcs l)), (true, .cel (.slice a2 p.length c2) p.length (bcs p)), (true, .cel (.slice ad6 b4.length cp7) b4.length (bcs b4))], Z, noX⟩ [(0, true, .slice a1 l.length c1), (2, true, .int .i64 n), (4, true, .pointer (some ⟨g1, 0, none⟩)), (6, true, .bool false), (7, true, .slice ad6 b4.length cp7), (8, true, .bool q5)] [(true, g1, 25, [.int .u8 ((o : Nat) : Int), .slice a2 p.length c2])] ac _ := hs.re ⟨rfl, rfl, rfl, rfl, rfl, rfl, trivial⟩
      refine wp_region_lit ?_
      refine lstep (wpO_plain rfl (op_load hs none 0 (v := .agg #[.int .u8 ((o : Nat) : Int), .slice a2 p.length c2]) rfl rfl rfl rfl Try.isAgg25 Try.sizeOf25 rfl rfl fun ac hs => ?_))
      refine lstep (wpO_plain rfl (op_callS (F := 17) (ρ := Option Addr × Nat) hs none none (v := fun r => .tuple #[.slice r.1 b4.length r.2, .bool q5]) (E := fun r => [.cel (.slice r.1 b4.length r.2) b4.length (bcs b4)]) (j := 1) rfl rfl rfl rfl (Try.call17 _) (fun hs => rpushes_c o a2 p.length c2 p b4 q5 (show o < 256 by omega) (show p.length ≤ 100000 by omega) hb4 hq5 _ _ (hs.all (k := 1) rfl rfl)) (fun _ => rfl) rfl rfl fun ⟨ad8, cp9⟩ ac w hs => ?_))
      refine lstep (wpO_plain rfl (op_move hs none rfl rfl rfl rfl fun ac hs => ?_))
      refine lstep (wpO_plain rfl (op_extract hs none rfl rfl rfl rfl rfl fun ac hs => ?_))
      refine lstep (wpO_plain rfl (op_extract hs none rfl rfl rfl rfl rfl fun ac hs => ?_))
      refine lstep (wpO_plain rfl (op_assign hs none rfl rfl rfl rfl fun ac hs => ?_))
      refine lstep (wpO_plain rfl (op_assign hs none rfl rfl rfl rfl fun ac hs => ?_))
      refine wpList_nil ?_
      refine then_n ?_
      refine wp_seq ?_
      replace hs : St 65 ⟨w0, [], [(true, .cel (.slice a1 l.length c1) l.length (bcs l)), (true, .cel (.slice a2 p.length c2) p.length (bcs p)), (true, .cel (.slice ad6 b4.length cp7) b4.length (bcs b4)), (true, .cel (.slice ad8 b4.length cp9) b4.length (bcs b4))], Z, noX⟩ [(0, true, .slice a1 l.length c1), (2, true, .int .i64 n), (4, true, .pointer (some ⟨g1, 0, none⟩)), (6, true, .bool false), (7, true, .slice ad6 b4.length cp7), (8, true, .bool q5), (9, true, .slice ad8 b4.length cp9), (10, true, .bool q5)] [(true, g1, 25, [.int .u8 ((o : Nat) : Int), .slice a2 p.length c2])] ac _ := hs.re ⟨rfl, rfl, rfl, rfl, rfl, rfl, rfl, rfl, trivial⟩
      obtain ⟨⟨o10, p11⟩, ho10⟩ : ∃ z0, pushW l = z0 := ⟨_, rfl⟩
      have lo10 := pushW_lt l
      rw [ho10] at lo10
      obtain ⟨lo10, lp11⟩ := lo10
      replace lo10 : o10 < 256 := lo10
      replace lp11 : p11.length ≤ l.length := lp11
      obtain ⟨q16, hq16⟩ : ∃ z0, shortB o p = z0 := ⟨_, rfl⟩
      obtain ⟨⟨o17, p18⟩, ho17⟩ : ∃ z0, pushW (enc n) = z0 := ⟨_, rfl⟩
      have lo17 := pushW_lt (enc n)
      rw [ho17] at lo17
      obtain ⟨lo17, lp18⟩ := lo17
      replace lo17 : o17 < 256 := lo17
      replace lp18 : p18.length ≤ (enc n).length := lp18
      refine region_inv [([], [1, 2, 3, 4, 5, 6, 7, 8, 9, 10, 11, 12, 13, 14, 15, 16, 17, 18, 19, 20, 21, 22, 23, 24, 25, 26, 27, 28, 29, 30, 31, 32, 33, 34]), ([0], [2, 3, 4, 5, 6, 7, 8, 9, 10, 11, 12, 13, 14, 15, 16, 17, 18, 19, 20, 21, 22, 23, 24, 25, 26, 27, 28, 29, 30, 31, 32, 33, 34]), ([0, 1], [3, 5, 6, 7, 8, 9, 10, 11, 12, 13, 14, 15, 16, 17, 18, 19, 20, 21, 22, 23, 24, 25, 26, 27, 28, 29, 30, 31, 32, 33, 34]), ([0, 1, 2], [5, 6, 7, 8, 9, 10, 11, 12, 13, 14, 15, 16, 17, 18, 19, 20, 21, 22, 23, 24, 25, 26, 27, 28, 29, 30, 31, 32, 33, 34]), ([0, 1], [5, 6, 7, 8, 9, 10, 11, 12, 13, 14, 15, 16, 17, 18, 19, 20, 21, 22, 23, 24, 25, 26, 27, 28, 29, 30, 31, 32, 33, 34]), ([0, 1, 2, 3, 4], [6, 7, 8, 9, 10, 11, 12, 13, 14, 15, 16, 17, 18, 19, 20, 21, 22, 23, 24, 25, 26, 27, 28, 29, 30, 31, 32, 33, 34]), ([0, 1, 2, 3, 4, 5], [7, 8, 9, 10, 11, 12, 13, 14, 15, 16, 17, 18, 19, 20, 21, 22, 23, 24, 25, 26, 27, 28, 29, 30, 31, 32, 33, 34]), ([0, 1, 2, 3, 4, 5, 6], [8, 9, 10, 11, 12, 13, 14, 15, 16, 17, 18, 19, 20, 21, 22, 23, 24, 25, 26, 27, 28, 29, 30, 31, 32, 33, 34]), ([0, 1, 2, 3, 4, 5, 6, 7], [9, 10, 11, 12, 13, 14, 15, 16, 17, 18, 19, 20, 21, 22, 23, 24, 25, 26, 27, 28, 29, 30, 31, 32, 33, 34]), ([0, 1, 2, 3, 4, 5, 6, 7, 8], [10, 13, 14, 15, 16, 17, 18, 19, 20, 21, 22, 23, 24, 25, 26, 27, 28, 29, 30, 31, 32, 33, 34]), ([0, 1, 2, 3, 4, 5, 6, 7, 8, 9], [13, 14, 15, 16, 17, 18, 19, 20, 21, 22, 23, 24, 25, 26, 27, 28, 29, 30, 31, 32, 33, 34]), ([0, 1, 2, 3, 4, 5, 6, 7, 8], [12, 13, 14, 15, 16, 17, 18, 19, 20, 21, 22, 23, 24, 25, 26, 27, 28, 29, 30, 31, 32, 33, 34]), ([0, 1, 2, 3, 4, 5, 6, 7, 8, 11], [13, 14, 15, 16, 17, 18, 19, 20, 21, 22, 23, 24, 25, 26, 27, 28, 29, 30, 31, 32, 33, 34]), ([0, 1, 2, 3, 4, 5, 6, 7, 8, 9, 10, 11, 12], [14, 15, 16, 17, 18, 19, 20, 21, 22, 23, 24, 25, 26, 27, 28, 29, 30, 31, 32, 33, 34]), ([0, 1, 2, 3, 4, 5, 6, 7, 8, 9, 10, 11, 12, 13], [15, 16, 17, 18, 19, 20, 21, 22, 23, 24, 25, 26, 27, 28, 29, 30, 31, 32, 33, 34]), ([0, 1, 2, 3, 4, 5, 6, 7, 8, 9, 10, 11, 12, 13, 14], [16, 17, 18, 19, 20, 21, 22, 23, 24, 25, 26, 27, 28, 29, 30, 31, 32, 33, 34]), ([0, 1, 2, 3, 4, 5, 6, 7, 8, 9, 10, 11, 12, 13, 14, 15], [18, 19, 20, 21, 22, 23, 24, 25, 26, 27, 28, 29, 30, 31, 32, 33, 34]), ([0, 1, 2, 3, 4, 5, 6, 7, 8, 9, 10, 11, 12, 13, 14, 15], [18, 19, 20, 21, 22, 23, 24, 25, 26, 27, 28, 29, 30, 31, 32, 33, 34]), ([0, 1, 2, 3, 4, 5, 6, 7, 8, 9, 10, 11, 12, 13, 14, 15, 16, 17], [19, 20, 21, 22, 23, 24, 25, 26, 27, 28, 29, 30, 31, 32, 33, 34]), ([0, 1, 2, 3, 4, 5, 6, 7, 8, 9, 10, 11, 12, 13, 14, 15, 16, 17, 18], [20, 21, 22, 23, 24, 25, 26, 27, 28, 29, 30, 31, 32, 33, 34]), ([0, 1, 2, 3, 4, 5, 6, 7, 8, 9, 10, 11, 12, 13, 14, 15, 16, 17, 18, 19], [21, 22, 23, 24, 25, 26, 27, 28, 29, 30, 31, 32, 33, 34]), ([0, 1, 2, 3, 4, 5, 6, 7, 8, 9, 10, 11, 12, 13, 14, 15, 16, 17, 18, 19, 20], [22, 24, 25, 26, 27, 28, 29, 30, 31, 32, 33, 34]), ([0, 1, 2, 3, 4, 5, 6, 7, 8, 9, 10, 11, 12, 13, 14, 15, 16, 17, 18, 19, 20, 21], [24, 25, 26, 27, 28, 29, 30, 31, 32, 33, 34]), ([0, 1, 2, 3, 4, 5, 6, 7, 8, 9, 10, 11, 12, 13, 14, 15, 16, 17, 18, 19, 20], [24, 25, 26, 27, 28, 29, 30, 31, 32, 33, 34]), ([0, 1, 2, 3, 4, 5, 6, 7, 8, 9, 10, 11, 12, 13, 14, 15, 16, 17, 18, 19, 20, 21, 22, 23], [25, 26, 27, 28, 29, 30, 31, 32, 33, 34]), ([0, 1, 2, 3, 4, 5, 6, 7, 8, 9, 10, 11, 12, 13, 14, 15, 16, 17, 18, 19, 20, 21, 22, 23, 24], [26, 27, 28, 29, 30, 31, 32, 33, 34]), ([0, 1, 2, 3, 4, 5, 6, 7, 8, 9, 10, 11, 12, 13, 14, 15, 16, 17, 18, 19, 20, 21, 22, 23, 24, 25], [27, 28, 29, 30, 31, 32, 33, 34]), ([0, 1, 2, 3, 4, 5, 6, 7, 8, 9, 10, 11, 12, 13, 14, 15, 16, 17, 18, 19, 20, 21, 22, 23, 24, 25, 26], [28, 29, 30, 31, 32, 33, 34]), ([0, 1, 2, 3, 4, 5, 6, 7, 8, 9, 10, 11, 12, 13, 14, 15, 16, 17, 18, 19, 20, 21, 22, 23, 24, 25, 26, 27], [29, 31, 32, 33, 34]), ([0, 1, 2, 3, 4, 5, 6, 7, 8, 9, 10, 11, 12, 13, 14, 15, 16, 17, 18, 19, 20, 21, 22, 23, 24, 25, 26, 27, 28], [31, 32, 33, 34]), ([0, 1, 2, 3, 4, 5, 6, 7, 8, 9, 10, 11, 12, 13, 14, 15, 16, 17, 18, 19, 20, 21, 22, 23, 24, 25, 26, 27], [31, 32, 33, 34]), ([0, 1, 2, 3, 4, 5, 6, 7, 8, 9, 10, 11, 12, 13, 14, 15, 16, 17, 18, 19, 20, 21, 22, 23, 24, 25, 26, 27, 28, 29, 30], [32, 33, 34]), ([0, 1, 2, 3, 4, 5, 6, 7, 8, 9, 10, 11, 12, 13, 14, 15, 16, 17, 18, 19, 20, 21, 22, 23, 24, 25, 26, 27, 28, 29, 30, 31], [33, 34]), ([0, 1, 2, 3, 4, 5, 6, 7, 8, 9, 10, 11, 12, 13, 14, 15, 16, 17, 18, 19, 20, 21, 22, 23, 24, 25, 26, 27, 28, 29, 30, 31, 32], [34]), ([0, 1, 2, 3, 4, 5, 6, 7, 8, 9, 10, 11, 12, 13, 14, 15, 16, 17, 18, 19, 20, 21, 22, 23, 24, 25, 26, 27, 28, 29, 30, 31, 32, 33], [])] (fun L ac w => ∃ (ad12 : Option Addr) (cp13 : Nat) (ad14 : Option Addr) (cp15 : Nat) (ad19 : Option Addr) (cp20 : Nat) (ad21 : Option Addr) (cp22 : Nat), St 65 ⟨w0, [], [(true, .cel (.slice a1 l.length c1) l.length (bcs l)), (true, .cel (.slice a2 p.length c2) p.length (bcs p)), (true, .cel (.slice ad6 b4.length cp7) b4.length (bcs b4)), (true, .cel (.slice ad8 b4.length cp9) b4.length (bcs b4)), (L 3, .cel (.slice ad12 p11.length cp13) p11.length (bcs p11)), (L 5, .cel (.slice ad14 p11.length cp15) p11.length (bcs p11)), (L 29, .cel (.slice ad19 p18.length cp20) p18.length (bcs p18)), (L 31, .cel (.slice ad21 p18.length cp22) p18.length (bcs p18))], Z, noX⟩ [(31, L 0, .bool true), (32, L 1, .bool true), (33, L 2, .slice a1 l.length c1), (34, L 3, .agg #[.int .u8 ((o10 : Nat) : Int), .slice ad12 p11.length cp13]), (35, L 4, .slice a1 l.length c1), (36, L 5, .agg #[.int .u8 ((o10 : Nat) : Int), .slice ad14 p11.length cp15]), (37, L 6, .bool true), (38, L 7, .bool true), (39, L 8, .bool true), (40, L 9, .slice ad6 b4.length cp7), (41, L 10, .string (txt b4)), (42, L 11, .slice ad8 b4.length cp9), (43, L 12, .string (txt b4)), (44, L 13, .bool true), (45, L 14, .bool true), (46, L 15, .bool true), (47, L 16, .bool q5), (48, L 17, .bool q5), (49, L 18, .bool true), (50, L 19, .bool true), (51, L 20, .bool true), (52, L 21, .agg #[.int .u8 ((o : Nat) : Int), .slice a2 p.length c2]), (53, L 22, .bool q16), (54, L 23, .agg #[.int .u8 ((o : Nat) : Int), .slice a2 p.length c2]), (55, L 24, .bool q16), (56, L 25, .bool true), (57, L 26, .bool true), (58, L 27, .bool true), (59, L 28, .int .i64 n), (60, L 29, .agg #[.int .u8 ((o17 : Nat) : Int), .slice ad19 p18.length cp20]), (61, L 30, .int .i64 n), (62, L 31, .agg #[.int .u8 ((o17 : Nat) : Int), .slice ad21 p18.length cp22]), (63, L 32, .bool true), (64, L 33, .bool true), (6, L 34, .bool true), (0, true, .slice a1 l.length c1), (2, true, .int .i64 n), (4, true, .pointer (some ⟨g1, 0, none⟩)), (6, true, .bool false), (7, true, .slice ad6 b4.length cp7), (8, true, .bool q5), (9, true, .slice ad8 b4.length cp9), (10, true, .bool q5)] [(true, g1, 25, [.int .u8 ((o : Nat) : Int), .slice a2 p.length c2])] ac w) (by kernel_rfl) (by kernel_rfl) ?_ ?_ ?_
      · exact ⟨none, 0, none, 0, none, 0, none, 0, hs.drew.skip.skip.skip.skip.skip.skip.skip.skip.skip.skip.skip.skip.skip.skip.skip.skip.skip.skip.skip.skip.skip.skip.skip.skip.skip.skip.skip.skip.skip.skip.skip.skip.skip.skip.skip.padS.padS.padS.padS⟩
      · refine ⟨?_, ?_, ?_, ?_, ?_, ?_, ?_, ?_, ?_, ?_, ?_, ?_, ?_, ?_, ?_, ?_, ?_, ?_, ?_, ?_, ?_, ?_, ?_, ?_, ?_, ?_, ?_, ?_, ?_, ?_, ?_, ?_, ?_, ?_, ?_, trivial⟩
        · intro L ac w hJ
          obtain ⟨ad12, cp13, ad14, cp15, ad19, cp20, ad21, cp22, hs⟩ := hJ
          refine wpO_plain rfl (op_callS (F := 9) (ρ := Unit) hs (some 0) none (v := fun r => .bool true) (E := fun r => []) (j := 0) rfl rfl rfl rfl (Try.call9 _) (fun hs => alive_c _ _) (fun _ => rfl) rfl rfl fun _ ac w hs => ?_)
          exact ⟨ad12, cp13, ad14, cp15, ad19, cp20, ad21, cp22, hs⟩
        · intro L ac w hJ
          obtain ⟨ad12, cp13, ad14, cp15, ad19, cp20, ad21, cp22, hs⟩ := hJ
          refine wpO_plain rfl (op_move hs (some 1) rfl rfl rfl rfl fun ac hs => ?_)
          exact ⟨ad12, cp13, ad14, cp15, ad19, cp20, ad21, cp22, hs⟩
        · intro L ac w hJ
          obtain ⟨ad12, cp13, ad14, cp15, ad19, cp20, ad21, cp22, hs⟩ := hJ
          refine wpO_in hs rfl rfl rfl (op_move hs (some 2) rfl rfl rfl rfl fun ac hs => ?_)
          exact ⟨ad12, cp13, ad14, cp15, ad19, cp20, ad21, cp22, hs⟩
        · intro L ac w hJ
          obtain ⟨ad12, cp13, ad14, cp15, ad19, cp20, ad21, cp22, hs⟩ := hJ
          refine wpO_in hs rfl rfl rfl (op_callS (F := 18) (ρ := Option Addr × Nat) hs (some 3) (some 4) (v := fun r => .agg #[.int .u8 ((o10 : Nat) : Int), .slice r.1 p11.length r.2]) (E := fun r => [.cel (.slice r.1 p11.length r.2) p11.length (bcs p11)]) (j := 1) rfl rfl rfl rfl (Try.call18 _) (fun hs => push_c a1 l.length c1 l o10 p11 (show l.length ≤ 100000 by omega) ho10 _ _ (hs.all (k := 0) rfl rfl)) (fun _ => rfl) rfl rfl fun ⟨ad12, cp13⟩ ac w hs => ?_)
          exact ⟨ad12, cp13, ad14, cp15, ad19, cp20, ad21, cp22, hs⟩
        · intro L ac w hJ
          obtain ⟨ad12, cp13, ad14, cp15, ad19, cp20, ad21, cp22, hs⟩ := hJ
          refine wpO_in hs rfl rfl rfl (op_move hs (some 4) rfl rfl rfl rfl fun ac hs => ?_)
          exact ⟨ad12, cp13, ad14, cp15, ad19, cp20, ad21, cp22, hs⟩
        · intro L ac w hJ
          obtain ⟨ad12, cp13, ad14, cp15, ad19, cp20, ad21, cp22, hs⟩ := hJ
          refine wpO_in hs rfl rfl rfl (op_callS (F := 19) (ρ := Option Addr × Nat) hs (some 5) (some 5) (v := fun r => .agg #[.int .u8 ((o10 : Nat) : Int), .slice r.1 p11.length r.2]) (E := fun r => [.cel (.slice r.1 p11.length r.2) p11.length (bcs p11)]) (j := 1) rfl rfl rfl rfl (Try.call19 _) (fun hs => rpush_c a1 l.length c1 l o10 p11 (show l.length ≤ 100000 by omega) ho10 _ _ (hs.all (k := 0) rfl rfl)) (fun _ => rfl) rfl rfl fun ⟨ad14, cp15⟩ ac w hs => ?_)
          exact ⟨ad12, cp13, ad14, cp15, ad19, cp20, ad21, cp22, hs⟩
        · intro L ac w hJ
          obtain ⟨ad12, cp13, ad14, cp15, ad19, cp20, ad21, cp22, hs⟩ := hJ
          refine wpO_in hs rfl rfl rfl (op_callU (F := 14) (ρ := Unit) hs (some 6) (v := fun r => .bool true) rfl rfl rfl rfl (Try.call14 _) (fun hs => same_c o10 ad12 p11.length cp13 p11 o10 ad14 p11.length cp15 p11 true (decide_eq_true ⟨rfl, rfl⟩) _ _ (hs.row (k := 4) rfl) (hs.row (k := 5) rfl)) rfl fun _ ac w hs => ?_)
          exact ⟨ad12, cp13, ad14, cp15, ad19, cp20, ad21, cp22, hs⟩
        · intro L ac w hJ
          obtain ⟨ad12, cp13, ad14, cp15, ad19, cp20, ad21, cp22, hs⟩ := hJ
          refine wpO_plain rfl (op_pickT hs (some 7) rfl rfl rfl rfl rfl fun ac hs => ?_)
          exact ⟨ad12, cp13, ad14, cp15, ad19, cp20, ad21, cp22, hs⟩
        · intro L ac w hJ
          obtain ⟨ad12, cp13, ad14, cp15, ad19, cp20, ad21, cp22, hs⟩ := hJ
          refine wpO_plain rfl (op_move hs (some 8) rfl rfl rfl rfl fun ac hs => ?_)
          exact ⟨ad12, cp13, ad14, cp15, ad19, cp20, ad21, cp22, hs⟩
        · intro L ac w hJ
          obtain ⟨ad12, cp13, ad14, cp15, ad19, cp20, ad21, cp22, hs⟩ := hJ
          refine wpO_in hs rfl rfl rfl (op_move hs (some 9) rfl rfl rfl rfl fun ac hs => ?_)
          exact ⟨ad12, cp13, ad14, cp15, ad19, cp20, ad21, cp22, hs⟩
        · intro L ac w hJ
          obtain ⟨ad12, cp13, ad14, cp15, ad19, cp20, ad21, cp22, hs⟩ := hJ
          refine wpO_in hs rfl rfl rfl (op_convBS hs (some 10) 2 rfl rfl rfl rfl rfl Try.underlying22 Try.underlying5 Try.underlying9 rfl fun ac hs => ?_)
          exact ⟨ad12, cp13, ad14, cp15, ad19, cp20, ad21, cp22, hs⟩
        · intro L ac w hJ
          obtain ⟨ad12, cp13, ad14, cp15, ad19, cp20, ad21, cp22, hs⟩ := hJ
          refine wpO_in hs rfl rfl rfl (op_move hs (some 11) rfl rfl rfl rfl fun ac hs => ?_)
          exact ⟨ad12, cp13, ad14, cp15, ad19, cp20, ad21, cp22, hs⟩
        · intro L ac w hJ
          obtain ⟨ad12, cp13, ad14, cp15, ad19, cp20, ad21, cp22, hs⟩ := hJ
          refine wpO_in hs rfl rfl rfl (op_convBS hs (some 12) 3 rfl rfl rfl rfl rfl Try.underlying22 Try.underlying5 Try.underlying9 rfl fun ac hs => ?_)
          exact ⟨ad12, cp13, ad14, cp15, ad19, cp20, ad21, cp22, hs⟩
        · intro L ac w hJ
          obtain ⟨ad12, cp13, ad14, cp15, ad19, cp20, ad21, cp22, hs⟩ := hJ
          refine wpO_in hs rfl rfl rfl (op_bin hs (some 13) (v := .bool true) rfl rfl rfl rfl (fun _ => rfl) (bin_eqlT (decide_eq_true rfl)) rfl fun ac hs => ?_)
          exact ⟨ad12, cp13, ad14, cp15, ad19, cp20, ad21, cp22, hs⟩
        · intro L ac w hJ
          obtain ⟨ad12, cp13, ad14, cp15, ad19, cp20, ad21, cp22, hs⟩ := hJ
          refine wpO_plain rfl (op_pickT hs (some 14) rfl rfl rfl rfl rfl fun ac hs => ?_)
          exact ⟨ad12, cp13, ad14, cp15, ad19, cp20, ad21, cp22, hs⟩
        · intro L ac w hJ
          obtain ⟨ad12, cp13, ad14, cp15, ad19, cp20, ad21, cp22, hs⟩ := hJ
          refine wpO_plain rfl (op_move hs (some 15) rfl rfl rfl rfl fun ac hs => ?_)
          exact ⟨ad12, cp13, ad14, cp15, ad19, cp20, ad21, cp22, hs⟩
        · intro L ac w hJ
          obtain ⟨ad12, cp13, ad14, cp15, ad19, cp20, ad21, cp22, hs⟩ := hJ
          refine wpO_in hs rfl rfl rfl (op_move hs (some 16) rfl rfl rfl rfl fun ac hs => ?_)
          exact ⟨ad12, cp13, ad14, cp15, ad19, cp20, ad21, cp22, hs⟩
        · intro L ac w hJ
          obtain ⟨ad12, cp13, ad14, cp15, ad19, cp20, ad21, cp22, hs⟩ := hJ
          refine wpO_in hs rfl rfl rfl (op_move hs (some 17) rfl rfl rfl rfl fun ac hs => ?_)
          exact ⟨ad12, cp13, ad14, cp15, ad19, cp20, ad21, cp22, hs⟩
        · intro L ac w hJ
          obtain ⟨ad12, cp13, ad14, cp15, ad19, cp20, ad21, cp22, hs⟩ := hJ
          refine wpO_in hs rfl rfl rfl (op_bin hs (some 18) (v := .bool true) rfl rfl rfl rfl (fun _ => rfl) (eqlB Try.underlying4 rfl) rfl fun ac hs => ?_)
          exact ⟨ad12, cp13, ad14, cp15, ad19, cp20, ad21, cp22, hs⟩
        · intro L ac w hJ
          obtain ⟨ad12, cp13, ad14, cp15, ad19, cp20, ad21, cp22, hs⟩ := hJ
          refine wpO_plain rfl (op_pickT hs (some 19) rfl rfl rfl rfl rfl fun ac hs => ?_)
          exact ⟨ad12, cp13, ad14, cp15, ad19, cp20, ad21, cp22, hs⟩
        · intro L ac w hJ
          obtain ⟨ad12, cp13, ad14, cp15, ad19, cp20, ad21, cp22, hs⟩ := hJ
          refine wpO_plain rfl (op_move hs (some 20) rfl rfl rfl rfl fun ac hs => ?_)
          exact ⟨ad12, cp13, ad14, cp15, ad19, cp20, ad21, cp22, hs⟩
        · intro L ac w hJ
          obtain ⟨ad12, cp13, ad14, cp15, ad19, cp20, ad21, cp22, hs⟩ := hJ
          refine wpO_in hs rfl rfl rfl (op_load hs (some 21) 0 (v := .agg #[.int .u8 ((o : Nat) : Int), .slice a2 p.length c2]) rfl rfl rfl rfl Try.isAgg25 Try.sizeOf25 rfl rfl fun ac hs => ?_)
          exact ⟨ad12, cp13, ad14, cp15, ad19, cp20, ad21, cp22, hs⟩
        · intro L ac w hJ
          obtain ⟨ad12, cp13, ad14, cp15, ad19, cp20, ad21, cp22, hs⟩ := hJ
          refine wpO_in hs rfl rfl rfl (op_callS (F := 20) (ρ := Unit) hs (some 22) none (v := fun r => .bool q16) (E := fun r => []) (j := 0) rfl rfl rfl rfl (Try.call20 _) (fun hs => short_c o a2 p.length c2 p q16 (show o < 256 by omega) (show p.length ≤ 50000 by omega) hq16 _ _ (hs.all (k := 1) rfl rfl)) (fun _ => rfl) rfl rfl fun _ ac w hs => ?_)
          exact ⟨ad12, cp13, ad14, cp15, ad19, cp20, ad21, cp22, hs⟩
        · intro L ac w hJ
          obtain ⟨ad12, cp13, ad14, cp15, ad19, cp20, ad21, cp22, hs⟩ := hJ
          refine wpO_in hs rfl rfl rfl (op_load hs (some 23) 0 (v := .agg #[.int .u8 ((o : Nat) : Int), .slice a2 p.length c2]) rfl rfl rfl rfl Try.isAgg25 Try.sizeOf25 rfl rfl fun ac hs => ?_)
          exact ⟨ad12, cp13, ad14, cp15, ad19, cp20, ad21, cp22, hs⟩
        · intro L ac w hJ
          obtain ⟨ad12, cp13, ad14, cp15, ad19, cp20, ad21, cp22, hs⟩ := hJ
          refine wpO_in hs rfl rfl rfl (op_callS (F := 21) (ρ := Unit) hs (some 24) none (v := fun r => .bool q16) (E := fun r => []) (j := 0) rfl rfl rfl rfl (Try.call21 _) (fun hs => rshort_c o a2 p.length c2 p q16 (show o < 256 by omega) (show p.length ≤ 50000 by omega) hq16 _ _ (hs.all (k := 1) rfl rfl)) (fun _ => rfl) rfl rfl fun _ ac w hs => ?_)
          exact ⟨ad12, cp13, ad14, cp15, ad19, cp20, ad21, cp22, hs⟩
        · intro L ac w hJ
          obtain ⟨ad12, cp13, ad14, cp15, ad19, cp20, ad21, cp22, hs⟩ := hJ
          refine wpO_in hs rfl rfl rfl (op_bin hs (some 25) (v := .bool true) rfl rfl rfl rfl (fun _ => rfl) (eqlB Try.underlying4 rfl) rfl fun ac hs => ?_)
          exact ⟨ad12, cp13, ad14, cp15, ad19, cp20, ad21, cp22, hs⟩
        · intro L ac w hJ
          obtain ⟨ad12, cp13, ad14, cp15, ad19, cp20, ad21, cp22, hs⟩ := hJ
          refine wpO_plain rfl (op_pickT hs (some 26) rfl rfl rfl rfl rfl fun ac hs => ?_)
          exact ⟨ad12, cp13, ad14, cp15, ad19, cp20, ad21, cp22, hs⟩
        · intro L ac w hJ
          obtain ⟨ad12, cp13, ad14, cp15, ad19, cp20, ad21, cp22, hs⟩ := hJ
          refine wpO_plain rfl (op_move hs (some 27) rfl rfl rfl rfl fun ac hs => ?_)
          exact ⟨ad12, cp13, ad14, cp15, ad19, cp20, ad21, cp22, hs⟩
        · intro L ac w hJ
          obtain ⟨ad12, cp13, ad14, cp15, ad19, cp20, ad21, cp22, hs⟩ := hJ
          refine wpO_in hs rfl rfl rfl (op_move hs (some 28) rfl rfl rfl rfl fun ac hs => ?_)
          exact ⟨ad12, cp13, ad14, cp15, ad19, cp20, ad21, cp22, hs⟩
        · intro L ac w hJ
          obtain ⟨ad12, cp13, ad14, cp15, ad19, cp20, ad21, cp22, hs⟩ := hJ
          refine wpO_in hs rfl rfl rfl (op_callS (F := 22) (ρ := Option Addr × Nat) hs (some 29) (some 6) (v := fun r => .agg #[.int .u8 ((o17 : Nat) : Int), .slice r.1 p18.length r.2]) (E := fun r => [.cel (.slice r.1 p18.length r.2) p18.length (bcs p18)]) (j := 1) rfl rfl rfl rfl (Try.call22 _) (fun hs => number_c n o17 p18 hn1 hn2 ho17 _ _) (fun _ => rfl) rfl rfl fun ⟨ad19, cp20⟩ ac w hs => ?_)
          exact ⟨ad12, cp13, ad14, cp15, ad19, cp20, ad21, cp22, hs⟩
        · intro L ac w hJ
          obtain ⟨ad12, cp13, ad14, cp15, ad19, cp20, ad21, cp22, hs⟩ := hJ
          refine wpO_in hs rfl rfl rfl (op_move hs (some 30) rfl rfl rfl rfl fun ac hs => ?_)
          exact ⟨ad12, cp13, ad14, cp15, ad19, cp20, ad21, cp22, hs⟩
        · intro L ac w hJ
          obtain ⟨ad12, cp13, ad14, cp15, ad19, cp20, ad21, cp22, hs⟩ := hJ
          refine wpO_in hs rfl rfl rfl (op_callS (F := 23) (ρ := Option Addr × Nat) hs (some 31) (some 7) (v := fun r => .agg #[.int .u8 ((o17 : Nat) : Int), .slice r.1 p18.length r.2]) (E := fun r => [.cel (.slice r.1 p18.length r.2) p18.length (bcs p18)]) (j := 1) rfl rfl rfl rfl (Try.call23 _) (fun hs => rnumber_c n o17 p18 hn1 hn2 ho17 _ _) (fun _ => rfl) rfl rfl fun ⟨ad21, cp22⟩ ac w hs => ?_)
          exact ⟨ad12, cp13, ad14, cp15, ad19, cp20, ad21, cp22, hs⟩
        · intro L ac w hJ
          obtain ⟨ad12, cp13, ad14, cp15, ad19, cp20, ad21, cp22, hs⟩ := hJ
          refine wpO_in hs rfl rfl rfl (op_callU (F := 14) (ρ := Unit) hs (some 32) (v := fun r => .bool true) rfl rfl rfl rfl (Try.call14 _) (fun hs => same_c o17 ad19 p18.length cp20 p18 o17 ad21 p18.length cp22 p18 true (decide_eq_true ⟨rfl, rfl⟩) _ _ (hs.row (k := 6) rfl) (hs.row (k := 7) rfl)) rfl fun _ ac w hs => ?_)
          exact ⟨ad12, cp13, ad14, cp15, ad19, cp20, ad21, cp22, hs⟩
        · intro L ac w hJ
          obtain ⟨ad12, cp13, ad14, cp15, ad19, cp20, ad21, cp22, hs⟩ := hJ
          refine wpO_plain rfl (op_pickT hs (some 33) rfl rfl rfl rfl rfl fun ac hs => ?_)
          exact ⟨ad12, cp13, ad14, cp15, ad19, cp20, ad21, cp22, hs⟩
        · intro L ac w hJ
          obtain ⟨ad12, cp13, ad14, cp15, ad19, cp20, ad21, cp22, hs⟩ := hJ
          refine wpO_plain rfl (op_assign hs (some 34) rfl rfl rfl rfl fun ac hs => ?_)
          exact ⟨ad12, cp13, ad14, cp15, ad19, cp20, ad21, cp22, hs⟩
      intro ac w hJ
      obtain ⟨ad12, cp13, ad14, cp15, ad19, cp20, ad21, cp22, hs⟩ := hJ
      replace hs : St 65 ⟨w0, [], [(true, .cel (.slice a1 l.length c1) l.length (bcs l)), (true, .cel (.slice a2 p.length c2) p.length (bcs p)), (true, .cel (.slice ad6 b4.length cp7) b4.length (bcs b4)), (true, .cel (.slice ad8 b4.length cp9) b4.length (bcs b4)), (true, .cel (.slice ad12 p11.length cp13) p11.length (bcs p11)), (true, .cel (.slice ad14 p11.length cp15) p11.length (bcs p11)), (true, .cel (.slice ad19 p18.length cp20) p18.length (bcs p18)), (true, .cel (.slice ad21 p18.length cp22) p18.length (bcs p18))], Z, noX⟩ [(31, true, .bool true), (32, true, .bool true), (33, true, .slice a1 l.length c1), (34, true, .agg #[.int .u8 ((o10 : Nat) : Int), .slice ad12 p11.length cp13]), (35, true, .slice a1 l.length c1), (36, true, .agg #[.int .u8 ((o10 : Nat) : Int), .slice ad14 p11.length cp15]), (37, true, .bool true), (38, true, .bool true), (39, true, .bool true), (40, true, .slice ad6 b4.length cp7), (41, true, .string (txt b4)), (42, true, .slice ad8 b4.length cp9), (43, true, .string (txt b4)), (44, true, .bool true), (45, true, .bool true), (46, true, .bool true), (47, true, .bool q5), (48, true, .bool q5), (49, true, .bool true), (50, true, .bool true), (51, true, .bool true), (52, true, .agg #[.int .u8 ((o : Nat) : Int), .slice a2 p.length c2]), (53, true, .bool q16), (54, true, .agg #[.int .u8 ((o : Nat) : Int), .slice a2 p.length c2]), (55, true, .bool q16), (56, true, .bool true), (57, true, .bool true), (58, true, .bool true), (59, true, .int .i64 n), (60, true, .agg #[.int .u8 ((o17 : Nat) : Int), .slice ad19 p18.length cp20]), (61, true, .int .i64 n), (62, true, .agg #[.int .u8 ((o17 : Nat) : Int), .slice ad21 p18.length cp22]), (63, true, .bool true), (64, true, .bool true), (6, true, .bool true), (0, true, .slice a1 l.length c1), (2, true, .int .i64 n), (4, true, .pointer (some ⟨g1, 0, none⟩)), (6, true, .bool false), (7, true, .slice ad6 b4.length cp7), (8, true, .bool q5), (9, true, .slice ad8 b4.length cp9), (10, true, .bool q5)] [(true, g1, 25, [.int .u8 ((o : Nat) : Int), .slice a2 p.length c2])] ac w := hs
      refine then_n ?_
      refine wp_ret ?_
      exact bodyPost_ret (res1 rfl (rv_t hs rfl)) hs.defers ⟨(), rfl, hs.bel rfl, okl0⟩
theorem short_law (a1 : Option Addr) (c1 : Nat) (l : List UInt8) (o : Nat) (a2 : Option Addr) (c2 : Nat) (p : List UInt8) (ho : o < 256) (w0 : World) (Z : Nat → Prop) (hl : ByV w0 Z (.slice a1 l.length c1) l) (hp : ByV w0 Z (.slice a2 p.length c2) p): Calls Try.prog 8 #[.slice a1 l.length c1, .agg #[.int .u8 ((o : Nat) : Int), .slice a2 p.length c2]] w0 fun e w' => Ret w0 Z (ρ := Unit) (fun r => .bool true) (fun r => []) e w' := by
  refine enterS (n := 98) (args := [.slice a1 l.length c1, .agg #[.int .u8 ((o : Nat) : Int), .slice a2 p.length c2]]) (S := [(true, .cel (.slice a1 l.length c1) l.length (bcs l)), (true, .cel (.slice a2 p.length c2) p.length (bcs p))]) (Z := Z) Try.func8 rfl rfl (Nat.le_of_ble_eq_true rfl) (sokC hl (sokC hp sok0)) rfl fun ac hs => ?_
  refine wp_seq ?_
  refine wp_region_lit ?_
  refine lstep (wpO_plain rfl (op_box hs none none (cs := [.int .u8 ((o : Nat) : Int), .slice a2 p.length c2]) rfl rfl rfl rfl rfl rfl fun g1 ac w hs => ?_))
  refine lstep (wpO_plain rfl (op_assign hs none rfl rfl rfl rfl fun ac hs => ?_))
  refine wpList_nil ?_
  refine then_n ?_
  refine wp_seq ?_
  refine wp_seq ?_
  by_cases hq2 : 400 < l.length
  · skip
    refine wp_region_lit ?_
    refine lstep (wpO_plain rfl (op_move hs none rfl rfl rfl rfl fun ac hs => ?_))
    refine lstep (wpO_plain rfl (op_blt hs none (v := .int .i64 ((l.length : Nat) : Int)) rfl rfl rfl (blt_len Try.underlying22) rfl fun ac hs => ?_))
    refine lstep (wpO_plain rfl (op_bin hs none (v := .bool true) rfl rfl rfl rfl (fun _ => rfl) (fun w => dT hq2 (bin_gtrN (x := l.length) (y := 400) w)) rfl fun ac hs => ?_))
    refine lstep (wpO_plain rfl (op_move hs none rfl rfl rfl rfl fun ac hs => ?_))
    refine lstep (wpO_out hs none rfl rfl (.inl rfl) rfl rfl fun ac hs => ?_)
    refine lstep (wpO_out hs none rfl rfl (.inl rfl) rfl rfl fun ac hs => ?_)
    refine lstep (wpO_out hs none rfl rfl (.inl rfl) rfl rfl fun ac hs => ?_)
    refine lstep (wpO_out hs none rfl rfl (.inl rfl) rfl rfl fun ac hs => ?_)
    refine lstep (wpO_plain rfl (op_pickT hs none rfl rfl rfl rfl rfl fun ac hs => ?_))
    refine wpList_nil ?_
    refine then_n ?_
    refine wp_cond_true (hs.ev rfl) ?_
    refine wp_seq ?_
    replace hs : St 98 ⟨w0, [], [(true, .cel (.slice a1 l.length c1) l.length (bcs l)), (true, .cel (.slice a2 p.length c2) p.length (bcs p))], Z, noX⟩ [(0, true, .slice a1 l.length c1), (3, true, .pointer (some ⟨g1, 0, none⟩)), (4, true, .bool false)] [(true, g1, 25, [.int .u8 ((o : Nat) : Int), .slice a2 p.length c2])] ac _ := hs.re ⟨rfl, rfl, rfl, trivial⟩
    refine wp_region_lit ?_
    refine lstep (wpO_plain rfl (op_callS (F := 9) (ρ := Unit) hs none none (v := fun r => .bool true) (E := fun r => []) (j := 0) rfl rfl rfl rfl (Try.call9 _) (fun hs => alive_c _ _) (fun _ => rfl) rfl rfl fun _ ac w hs => ?_))
    refine lstep (wpO_plain rfl (op_assign hs none rfl rfl rfl rfl fun ac hs => ?_))
    refine wpList_nil ?_
    refine then_n ?_
    refine wp_ret ?_
    refine then_r ?_
    exact bodyPost_ret (res1 rfl (rv_t hs rfl)) hs.defers ⟨(), rfl, hs.bel rfl, okl0⟩
  · skip
    by_cases hq3 : 400 < p.length
    · skip
      refine wp_region_lit ?_
      refine lstep (wpO_plain rfl (op_move hs none rfl rfl rfl rfl fun ac hs => ?_))
      refine lstep (wpO_plain rfl (op_blt hs none (v := .int .i64 ((l.length : Nat) : Int)) rfl rfl rfl (blt_len Try.underlying22) rfl fun ac hs => ?_))
      refine lstep (wpO_plain rfl (op_bin hs none (v := .bool false) rfl rfl rfl rfl (fun _ => rfl) (fun w => dF hq2 (bin_gtrN (x := l.length) (y := 400) w)) rfl fun ac hs => ?_))
      refine lstep (wpO_plain rfl (op_move hs none rfl rfl rfl rfl fun ac hs => ?_))
      refine lstep (wpO_in hs rfl rfl rfl (op_fieldA hs none rfl rfl rfl Try.underlying25 rfl Try.sizeOf22 (by decide) rfl fun ac hs => ?_))
      refine lstep (wpO_in hs rfl rfl rfl (op_load hs none 0 (v := .slice a2 p.length c2) rfl rfl rfl rfl Try.isAgg22 Try.sizeOf22 rfl rfl fun ac hs => ?_))
      refine lstep (wpO_in hs rfl rfl rfl (op_blt hs none (v := .int .i64 ((p.length : Nat) : Int)) rfl rfl rfl (blt_len Try.underlying22) rfl fun ac hs => ?_))
      refine lstep (wpO_in hs rfl rfl rfl (op_bin hs none (v := .bool true) rfl rfl rfl rfl (fun _ => rfl) (fun w => dT hq3 (bin_gtrN (x := p.length) (y := 400) w)) rfl fun ac hs => ?_))
      refine lstep (wpO_plain rfl (op_pickF hs none rfl rfl rfl rfl rfl fun ac hs => ?_))
      refine wpList_nil ?_
      refine then_n ?_
      refine wp_cond_true (hs.ev rfl) ?_
      refine wp_seq ?_
      replace hs : St 98 ⟨w0, [], [(true, .cel (.slice a1 l.length c1) l.length (bcs l)), (true, .cel (.slice a2 p.length c2) p.length (bcs p))], Z, noX⟩ [(0, true, .slice a1 l.length c1), (3, true, .pointer (some ⟨g1, 0, none⟩)), (4, true, .bool false)] [(true, g1, 25, [.int .u8 ((o : Nat) : Int), .slice a2 p.length c2])] ac _ := hs.re ⟨rfl, rfl, rfl, trivial⟩
      refine wp_region_lit ?_
      refine lstep (wpO_plain rfl (op_callS (F := 9) (ρ := Unit) hs none none (v := fun r => .bool true) (E := fun r => []) (j := 0) rfl rfl rfl rfl (Try.call9 _) (fun hs => alive_c _ _) (fun _ => rfl) rfl rfl fun _ ac w hs => ?_))
      refine lstep (wpO_plain rfl (op_assign hs none rfl rfl rfl rfl fun ac hs => ?_))
      refine wpList_nil ?_
      refine then_n ?_
      refine wp_ret ?_
      refine then_r ?_
      exact bodyPost_ret (res1 rfl (rv_t hs rfl)) hs.defers ⟨(), rfl, hs.bel rfl, okl0⟩
    · skip
      refine wp_region_lit ?_
      refine lstep (wpO_plain rfl (op_move hs none rfl rfl rfl rfl fun ac hs => ?_))
      refine lstep (wpO_plain rfl (op_blt hs none (v := .int .i64 ((l.length : Nat) : Int)) rfl rfl rfl (blt_len Try.underlying22) rfl fun ac hs => ?_))
      refine lstep (wpO_plain rfl (op_bin hs none (v := .bool false) rfl rfl rfl rfl (fun _ => rfl) (fun w => dF hq2 (bin_gtrN (x := l.length) (y := 400) w)) rfl fun ac hs => ?_))
      refine lstep (wpO_plain rfl (op_move hs none rfl rfl rfl rfl fun ac hs => ?_))
      refine lstep (wpO_in hs rfl rfl rfl (op_fieldA hs none rfl rfl rfl Try.underlying25 rfl Try.sizeOf22 (by decide) rfl fun ac hs => ?_))
      refine lstep (wpO_in hs rfl rfl rfl (op_load hs none 0 (v := .slice a2 p.length c2) rfl rfl rfl rfl Try.isAgg22 Try.sizeOf22 rfl rfl fun ac hs => ?_))
      refine lstep (wpO_in hs rfl rfl rfl (op_blt hs none (v := .int .i64 ((p.length : Nat) : Int)) rfl rfl rfl (blt_len Try.underlying22) rfl fun ac hs => ?_))
      refine lstep (wpO_in hs rfl rfl rfl (op_bin hs none (v := .bool false) rfl rfl rfl rfl (fun _ => rfl) (fun w => dF hq3 (bin_gtrN (x := p.length) (y := 400) w)) rfl fun ac hs => ?_))
      refine lstep (wpO_plain rfl (op_pickF hs none rfl rfl rfl rfl rfl fun ac hs => ?_))
      refine wpList_nil ?_
      refine then_n ?_
      refine wp_cond_false (hs.ev rfl) ?_
      refine wp_skip ?_
      refine then_n ?_
      refine wp_seq ?_
      replace hs : St 98 ⟨w0, [], [(true, .cel (.slice a1 l.length c1) l.length (bcs l)), (true, .cel (.slice a2 p.length c2) p.length (bcs p))], Z, noX⟩ [(0, true, .slice a1 l.length c1), (3, true, .pointer (some ⟨g1, 0, none⟩)), (4, true, .bool false)] [(true, g1, 25, [.int .u8 ((o : Nat) : Int), .slice a2 p.length c2])] ac _ := hs.re ⟨rfl, rfl, rfl, trivial⟩
      refine wp_region_lit ?_
      refine lstep (wpO_plain rfl (op_move hs none rfl rfl rfl rfl fun ac hs => ?_))
      obtain ⟨⟨o4, p5⟩, ho4⟩ : ∃ z0, pushW l = z0 := ⟨_, rfl⟩
      have lo4 := pushW_lt l
      rw [ho4] at lo4
      obtain ⟨lo4, lp5⟩ := lo4
      replace lo4 : o4 < 256 := lo4
      replace lp5 : p5.length ≤ l.length := lp5
      refine lstep (wpO_plain rfl (op_callS (F := 18) (ρ := Option Addr × Nat) hs none none (v := fun r => .agg #[.int .u8 ((o4 : Nat) : Int), .slice r.1 p5.length r.2]) (E := fun r => [.cel (.slice r.1 p5.length r.2) p5.length (bcs p5)]) (j := 1) rfl rfl rfl rfl (Try.call18 _) (fun hs => push_c a1 l.length c1 l o4 p5 (show l.length ≤ 100000 by omega) ho4 _ _ (hs.all (k := 0) rfl rfl)) (fun _ => rfl) rfl rfl fun ⟨ad6, cp7⟩ ac w hs => ?_))
      refine lstep (wpO_plain rfl (op_alloc hs none none (cs := [.int .u8 0, .slice none 0 0]) rfl rfl Try.zeroValue25 (by kernel_rfl) rfl rfl fun g8 ac w hs => ?_))
      refine lstep (wpO_plain rfl (op_store hs 1 (vs := [.int .u8 ((o4 : Nat) : Int), .slice ad6 p5.length cp7]) rfl rfl rfl rfl rfl Try.sizeOf25 rfl rfl rfl rfl rfl fun w hs => ?_))
      refine wpList_nil ?_
      have hpsh := psh_push ho4
      have hlay := lay_push (by omega) ho4
      refine then_n ?_
      refine wp_seq ?_
      refine wp_region_lit ?_
      refine lstep (wpO_plain rfl (op_load hs none 1 (v := .agg #[.int .u8 ((o4 : Nat) : Int), .slice ad6 p5.length cp7]) rfl rfl rfl rfl Try.isAgg25 Try.sizeOf25 rfl rfl fun ac hs => ?_))
      refine lstep (wpO_plain rfl (op_callS (F := 16) (ρ := Option Addr × Nat) hs none none (v := fun r => .tuple #[.slice r.1 l.length r.2, .bool true]) (E := fun r => [.cel (.slice r.1 l.length r.2) l.length (bcs l)]) (j := 1) rfl rfl rfl rfl (Try.call16 _) (fun hs => pushes_c o4 ad6 p5.length cp7 p5 l true (show o4 < 256 by omega) (show p5.length ≤ 100000 by omega) hpsh.1 hpsh.2 _ _ (hs.all (k := 2) rfl rfl)) (fun _ => rfl) rfl rfl fun ⟨ad9, cp10⟩ ac w hs => ?_))
      refine lstep (wpO_plain rfl (op_move hs none rfl rfl rfl rfl fun ac hs => ?_))
      refine lstep (wpO_plain rfl (op_extract hs none rfl rfl rfl rfl rfl fun ac hs => ?_))
      refine lstep (wpO_plain rfl (op_extract hs none rfl rfl rfl rfl rfl fun ac hs => ?_))
      refine lstep (wpO_plain rfl (op_assign hs none rfl rfl rfl rfl fun ac hs => ?_))
      refine lstep (wpO_plain rfl (op_assign hs none rfl rfl rfl rfl fun ac hs => ?_))
      refine wpList_nil ?_
      refine then_n ?_
      refine wp_seq ?_
      replace hs : St 98 ⟨w0, [], [(true, .cel (.slice a1 l.length c1) l.length (bcs l)), (true, .cel (.slice a2 p.length c2) p.length (bcs p)), (true, .cel (.slice ad6 p5.length cp7) p5.length (bcs p5)), (true, .cel (.slice ad9 l.length cp10) l.length (bcs l))], Z, noX⟩ [(0, true, .slice a1 l.length c1), (3, true, .pointer (some ⟨g1, 0, none⟩)), (4, true, .bool false), (5, true, .pointer (some ⟨g8, 0, none⟩)), (6, true, .slice ad9 l.length cp10), (7, true, .bool true)] [(true, g1, 25, [.int .u8 ((o : Nat) : Int), .slice a2 p.length c2]), (true, g8, 25, [.int .u8 ((o4 : Nat) : Int), .slice ad6 p5.length cp7])] ac _ := hs.re ⟨rfl, rfl, rfl, rfl, rfl, rfl, trivial⟩
      refine wp_region_lit ?_
      refine lstep (wpO_plain rfl (op_load hs none 1 (v := .agg #[.int .u8 ((o4 : Nat) : Int), .slice ad6 p5.length cp7]) rfl rfl rfl rfl Try.isAgg25 Try.sizeOf25 rfl rfl fun ac hs => ?_))
      refine lstep (wpO_plain rfl (op_bsO hs none none (qs := [(0, .agg #[.int .u8 ((o4 : Nat) : Int), .slice ad6 p5.length cp7])]) (cs := [.int .u8 ((o4 : Nat) : Int), .slice ad6 p5.length cp7]) rfl rfl rfl rfl Try.underlying29 inf_struct_25 (by decide) (by decide) (fill_pair _ _ _) rfl rfl rfl rfl fun ad12 ac w hs => ?_))
      replace hs := hs.freeze 4 rfl
      refine lstep (wpO_plain rfl (op_callS (F := 25) (ρ := Option Addr × Nat) hs none none (v := fun r => .tuple #[.slice r.1 ((layB o4 p5).length) r.2, .int .i64 0]) (E := fun r => [.cel (.slice r.1 ((layB o4 p5).length) r.2) ((layB o4 p5).length) (bcs (layB o4 p5))]) (j := 1) rfl rfl rfl rfl (Try.call25 _) (fun hs => build_c ad12 1 [(o4, p5)] [.slice ad6 p5.length cp7] (layB o4 p5) 0 (small_one lo4 (by omega)) (BW_one hlay) _ _ (hs.all (k := 4) rfl rfl) (bysv_one o4 (hs.all (k := 2) rfl rfl))) (fun _ => rfl) rfl rfl fun ⟨ad13, cp14⟩ ac w hs => ?_))
      refine lstep (wpO_plain rfl (op_move hs none rfl rfl rfl rfl fun ac hs => ?_))
      refine lstep (wpO_plain rfl (op_extract hs none rfl rfl rfl rfl rfl fun ac hs => ?_))
      refine lstep (wpO_plain rfl (op_extract hs none rfl rfl rfl rfl rfl fun ac hs => ?_))
      refine lstep (wpO_plain rfl (op_assign hs none rfl rfl rfl rfl fun ac hs => ?_))
      refine lstep (wpO_plain rfl (op_assign hs none rfl rfl rfl rfl fun ac hs => ?_))
      refine wpList_nil ?_
      refine then_n ?_
      refine wp_seq ?_
      refine wp_seq ?_
      replace hs : St 98 ⟨w0, [], [(true, .cel (.slice a1 l.length c1) l.length (bcs l)), (true, .cel (.slice a2 p.length c2) p.length (bcs p)), (true, .cel (.slice ad6 p5.length cp7) p5.length (bcs p5)), (true, .cel (.slice ad9 l.length cp10) l.length (bcs l)), (true, .cel (.slice ad12 1 1) 1 ([.int .u8 ((o4 : Nat) : Int), .slice ad6 p5.length cp7])), (true, .cel (.slice ad13 ((layB o4 p5).length) cp14) ((layB o4 p5).length) (bcs (layB o4 p5)))], Z, noX⟩ [(0, true, .slice a1 l.length c1), (3, true, .pointer (some ⟨g1, 0, none⟩)), (4, true, .bool false), (5, true, .pointer (some ⟨g8, 0, none⟩)), (6, true, .slice ad9 l.length cp10), (7, true, .bool true), (8, true, .slice ad13 ((layB o4 p5).length) cp14), (9, true, .int .i64 0)] [(true, g1, 25, [.int .u8 ((o : Nat) : Int), .slice a2 p.length c2]), (true, g8, 25, [.int .u8 ((o4 : Nat) : Int), .slice ad6 p5.length cp7])] ac _ := hs.re ⟨rfl, rfl, rfl, rfl, rfl, rfl, rfl, rfl, trivial⟩
      refine wp_region_lit ?_
      refine lstep (wpO_plain rfl (op_move hs none rfl rfl rfl rfl fun ac hs => ?_))
      refine lstep (wpO_plain rfl (op_un hs none (v := .bool false) rfl rfl rfl (fun _ => rfl) rfl fun ac hs => ?_))
      refine lstep (wpO_plain rfl (op_move hs none rfl rfl rfl rfl fun ac hs => ?_))
      refine lstep (wpO_in hs rfl rfl rfl (op_move hs none rfl rfl rfl rfl fun ac hs => ?_))
      refine lstep (wpO_in hs rfl rfl rfl (op_convBS hs none 3 rfl rfl rfl rfl rfl Try.underlying22 Try.underlying5 Try.underlying9 rfl fun ac hs => ?_))
      refine lstep (wpO_in hs rfl rfl rfl (op_move hs none rfl rfl rfl rfl fun ac hs => ?_))
      refine lstep (wpO_in hs rfl rfl rfl (op_convBS hs none 0 rfl rfl rfl rfl rfl Try.underlying22 Try.underlying5 Try.underlying9 rfl fun ac hs => ?_))
      refine lstep (wpO_in hs rfl rfl rfl (op_bin hs none (v := .bool false) rfl rfl rfl rfl (fun _ => rfl) (bin_neqT (decide_eq_true rfl)) rfl fun ac hs => ?_))
      refine lstep (wpO_plain rfl (op_pickF hs none rfl rfl rfl rfl rfl fun ac hs => ?_))
      refine lstep (wpO_plain rfl (op_move hs none rfl rfl rfl rfl fun ac hs => ?_))
      refine lstep (wpO_in hs rfl rfl rfl (op_move hs none rfl rfl rfl rfl fun ac hs => ?_))
      refine lstep (wpO_in hs rfl rfl rfl (op_bin hs none (v := .bool false) rfl rfl rfl rfl (fun _ => rfl) (fun _ => by kernel_rfl) rfl fun ac hs => ?_))
      refine lstep (wpO_plain rfl (op_pickF hs none rfl rfl rfl rfl rfl fun ac hs => ?_))
      refine lstep (wpO_plain rfl (op_move hs none rfl rfl rfl rfl fun ac hs => ?_))
      refine lstep (wpO_in hs rfl rfl rfl (op_load hs none 1 (v := .agg #[.int .u8 ((o4 : Nat) : Int), .slice ad6 p5.length cp7]) rfl rfl rfl rfl Try.isAgg25 Try.sizeOf25 rfl rfl fun ac hs => ?_))
      refine lstep (wpO_in hs rfl rfl rfl (op_callS (F := 20) (ρ := Unit) hs none none (v := fun r => .bool true) (E := fun r => []) (j := 0) rfl rfl rfl rfl (Try.call20 _) (fun hs => short_c o4 ad6 p5.length cp7 p5 true (show o4 < 256 by omega) (show p5.length ≤ 50000 by omega) (short_push ho4) _ _ (hs.all (k := 2) rfl rfl)) (fun _ => rfl) rfl rfl fun _ ac w hs => ?_))
      refine lstep (wpO_in hs rfl rfl rfl (op_un hs none (v := .bool false) rfl rfl rfl (fun _ => rfl) rfl fun ac hs => ?_))
      refine lstep (wpO_plain rfl (op_pickF hs none rfl rfl rfl rfl rfl fun ac hs => ?_))
      refine wpList_nil ?_
      refine then_n ?_
      refine wp_cond_false (hs.ev rfl) ?_
      refine wp_skip ?_
      refine then_n ?_
      refine wp_seq ?_
      replace hs : St 98 ⟨w0, [], [(true, .cel (.slice a1 l.length c1) l.length (bcs l)), (true, .cel (.slice a2 p.length c2) p.length (bcs p)), (true, .cel (.slice ad6 p5.length cp7) p5.length (bcs p5)), (true, .cel (.slice ad9 l.length cp10) l.length (bcs l)), (true, .cel (.slice ad12 1 1) 1 ([.int .u8 ((o4 : Nat) : Int), .slice ad6 p5.length cp7])), (true, .cel (.slice ad13 ((layB o4 p5).length) cp14) ((layB o4 p5).length) (bcs (layB o4 p5)))], Z, noX⟩ [(0, true, .slice a1 l.length c1), (3, true, .pointer (some ⟨g1, 0, none⟩)), (4, true, .bool false), (8, true, .slice ad13 ((layB o4 p5).length) cp14)] [(true, g1, 25, [.int .u8 ((o : Nat) : Int), .slice a2 p.length c2]), (true, g8, 25, [.int .u8 ((o4 : Nat) : Int), .slice ad6 p5.length cp7])] ac _ := hs.re ⟨rfl, rfl, rfl, rfl, trivial⟩
      refine wp_region_lit ?_
      refine lstep (wpO_plain rfl (op_load hs none 0 (v := .agg #[.int .u8 ((o : Nat) : Int), .slice a2 p.length c2]) rfl rfl rfl rfl Try.isAgg25 Try.sizeOf25 rfl rfl fun ac hs => ?_))
      obtain ⟨b15, hb15⟩ : ∃ z0, pshB o p = z0 := ⟨_, rfl⟩
      obtain ⟨q16, hq16⟩ : ∃ z0, pshQ o = z0 := ⟨_, rfl⟩
      have lb15 : b15.length ≤ p.length + 1 := hb15 ▸ pshB_len
      refine lstep (wpO_plain rfl (op_callS (F := 16) (ρ := Option Addr × Nat) hs none none (v := fun r => .tuple #[.slice r.1 b15.length r.2, .bool q16]) (E := fun r => [.cel (.slice r.1 b15.length r.2) b15.length (bcs b15)]) (j := 1) rfl rfl rfl rfl (Try.call16 _) (fun hs => pushes_c o a2 p.length c2 p b15 q16 (show o < 256 by omega) (show p.length ≤ 100000 by omega) hb15 hq16 _ _ (hs.all (k := 1) rfl rfl)) (fun _ => rfl) rfl rfl fun ⟨ad17, cp18⟩ ac w hs => ?_))
      refine lstep (wpO_plain rfl (op_move hs none rfl rfl rfl rfl fun ac hs => ?_))
      refine lstep (wpO_plain rfl (op_extract hs none rfl rfl rfl rfl rfl fun ac hs => ?_))
      refine lstep (wpO_plain rfl (op_extract hs none rfl rfl rfl rfl rfl fun ac hs => ?_))
      refine lstep (wpO_plain rfl (op_assign hs none rfl rfl rfl rfl fun ac hs => ?_))
      refine lstep (wpO_plain rfl (op_assign hs none rfl rfl rfl rfl fun ac hs => ?_))
      refine wpList_nil ?_
      refine then_n ?_
      refine wp_seq ?_
      replace hs : St 98 ⟨w0, [], [(true, .cel (.slice a1 l.length c1) l.length (bcs l)), (true, .cel (.slice a2 p.length c2) p.length (bcs p)), (true, .cel (.slice ad6 p5.length cp7) p5.length (bcs p5)), (true, .cel (.slice ad9 l.length cp10) l.length (bcs l)), (true, .cel (.slice ad12 1 1) 1 ([.int .u8 ((o4 : Nat) : Int), .slice ad6 p5.length cp7])), (true, .cel (.slice ad13 ((layB o4 p5).length) cp14) ((layB o4 p5).length) (bcs (layB o4 p5))), (true, .cel (.slice ad17 b15.length cp18) b15.length (bcs b15))], Z, noX⟩ [(0, true, .slice a1 l.length c1), (3, true, .pointer (some ⟨g1, 0, none⟩)), (4, true, .bool false), (8, true, .slice ad13 ((layB o4 p5).length) cp14), (10, true, .slice ad17 b15.length cp18), (11, true, .bool q16)] [(true, g1, 25, [.int .u8 ((o : Nat) : Int), .slice a2 p.length c2]), (true, g8, 25, [.int .u8 ((o4 : Nat) : Int), .slice ad6 p5.length cp7])] ac _ := hs.re ⟨rfl, rfl, rfl, rfl, rfl, rfl, trivial⟩
      refine wp_region_lit ?_
      refine lstep (wpO_plain rfl (op_load hs none 0 (v := .agg #[.int .u8 ((o : Nat) : Int), .slice a2 p.length c2]) rfl rfl rfl rfl Try.isAgg25 Try.sizeOf25 rfl rfl fun ac hs => ?_))
      refine lstep (wpO_plain rfl (op_bsO hs none none (qs := [(0, .agg #[.int .u8 ((o : Nat) : Int), .slice a2 p.length c2])]) (cs := [.int .u8 ((o : Nat) : Int), .slice a2 p.length c2]) rfl rfl rfl rfl Try.underlying29 inf_struct_25 (by decide) (by decide) (fill_pair _ _ _) rfl rfl rfl rfl fun ad20 ac w hs => ?_))
      replace hs := hs.freeze 7 rfl
      obtain ⟨b21, er22, hb21⟩ : ∃ z0 z1, BW [(o, p)] = (z0, z1) := ⟨_, _, rfl⟩
      refine lstep (wpO_plain rfl (op_callS (F := 25) (ρ := Option Addr × Nat) hs none none (v := fun r => .tuple #[.slice r.1 b21.length r.2, .int .i64 ((er22 : Nat) : Int)]) (E := fun r => [.cel (.slice r.1 b21.length r.2) b21.length (bcs b21)]) (j := 1) rfl rfl rfl rfl (Try.call25 _) (fun hs => build_c ad20 1 [(o, p)] [.slice a2 p.length c2] b21 er22 (small_one ho (by omega)) hb21 _ _ (hs.all (k := 7) rfl rfl) (bysv_one o (hs.all (k := 1) rfl rfl))) (fun _ => rfl) rfl rfl fun ⟨ad23, cp24⟩ ac w hs => ?_))
      refine lstep (wpO_plain rfl (op_move hs none rfl rfl rfl rfl fun ac hs => ?_))
      refine lstep (wpO_plain rfl (op_extract hs none rfl rfl rfl rfl rfl fun ac hs => ?_))
      refine lstep (wpO_plain rfl (op_extract hs none rfl rfl rfl rfl rfl fun ac hs => ?_))
      refine lstep (wpO_plain rfl (op_assign hs none rfl rfl rfl rfl fun ac hs => ?_))
      refine lstep (wpO_plain rfl (op_assign hs none rfl rfl rfl rfl fun ac hs => ?_))
      refine wpList_nil ?_
      refine then_n ?_
      refine wp_seq ?_
      refine wp_seq ?_
      by_cases hq25 : q16 = true
      · skip
        replace hs := hs.re (fs' := [(0, true, .slice a1 l.length c1), (3, true, .pointer (some ⟨g1, 0, none⟩)), (4, true, .bool false), (8, true, .slice ad13 ((layB o4 p5).length) cp14), (10, true, .slice ad17 b15.length cp18), (11, true, .bool true), (61, true, .agg #[.int .u8 ((o : Nat) : Int), .slice a2 p.length c2]), (62, true, .slice ad20 1 1), (63, true, .tuple #[.slice ad23 b21.length cp24, .int .i64 ((er22 : Nat) : Int)]), (60, true, .tuple #[.slice ad23 b21.length cp24, .int .i64 ((er22 : Nat) : Int)]), (64, true, .slice ad23 b21.length cp24), (65, true, .int .i64 ((er22 : Nat) : Int)), (12, true, .slice ad23 b21.length cp24), (13, true, .int .i64 ((er22 : Nat) : Int))]) ⟨rfl, rfl, rfl, rfl, rfl, congrArg some (congrArg Value.bool hq25), rfl, rfl, rfl, rfl, rfl, rfl, rfl, rfl, trivial⟩
        by_cases hq26 : er22 = 0
        · skip
          by_cases hq27 : b15 = l
          · skip
            have hpq : pshQ o = true := hq16.trans hq25
            have hpb : pshB o p = l := hb15.trans hq27
            have hb1 := BW_one' hb21 hq26
            have hle := push_least hpb hpq hb1.1
            rw [ho4] at hle
            have hlen : (layB o4 p5).length ≤ b21.length := by rw [hb1.2]; exact hle
            replace hs : St 98 ⟨w0, [], [(true, .cel (.slice a1 l.length c1) l.length (bcs l)), (true, .cel (.slice a2 p.length c2) p.length (bcs p)), (true, .cel (.slice ad6 p5.length cp7) p5.length (bcs p5)), (true, .cel (.slice ad9 l.length cp10) l.length (bcs l)), (true, .cel (.slice ad12 1 1) 1 ([.int .u8 ((o4 : Nat) : Int), .slice ad6 p5.length cp7])), (true, .cel (.slice ad13 ((layB o4 p5).length) cp14) ((layB o4 p5).length) (bcs (layB o4 p5))), (true, .cel (.slice ad17 b15.length cp18) b15.length (bcs b15)), (true, .cel (.slice ad20 1 1) 1 ([.int .u8 ((o : Nat) : Int), .slice a2 p.length c2])), (true, .cel (.slice ad23 b21.length cp24) b21.length (bcs b21))], Z, noX⟩ [(0, true, .slice a1 l.length c1), (3, true, .pointer (some ⟨g1, 0, none⟩)), (4, true, .bool false), (8, true, .slice ad13 ((layB o4 p5).length) cp14), (10, true, .slice ad17 b15.length cp18), (11, true, .bool true), (12, true, .slice ad23 b21.length cp24), (13, true, .int .i64 ((er22 : Nat) : Int))] [(true, g1, 25, [.int .u8 ((o : Nat) : Int), .slice a2 p.length c2]), (true, g8, 25, [.int .u8 ((o4 : Nat) : Int), .slice ad6 p5.length cp7])] ac _ := hs.re ⟨rfl, rfl, rfl, rfl, rfl, rfl, rfl, rfl, trivial⟩
            refine wp_region_lit ?_
            refine lstep (wpO_plain rfl (op_move hs none rfl rfl rfl rfl fun ac hs => ?_))
            refine lstep (wpO_plain rfl (op_un hs none (v := .bool false) rfl rfl rfl (fun _ => rfl) rfl fun ac hs => ?_))
            refine lstep (wpO_plain rfl (op_move hs none rfl rfl rfl rfl fun ac hs => ?_))
            refine lstep (wpO_in hs rfl rfl rfl (op_move hs none rfl rfl rfl rfl fun ac hs => ?_))
            refine lstep (wpO_in hs rfl rfl rfl (op_bin hs none (v := .bool false) rfl rfl rfl rfl (fun _ => rfl) (fun w => dF (fun hh => hh hq26) (bin_neqN (x := er22) (y := 0) w)) rfl fun ac hs => ?_))
            refine lstep (wpO_plain rfl (op_pickF hs none rfl rfl rfl rfl rfl fun ac hs => ?_))
            refine lstep (wpO_plain rfl (op_move hs none rfl rfl rfl rfl fun ac hs => ?_))
            refine lstep (wpO_in hs rfl rfl rfl (op_move hs none rfl rfl rfl rfl fun ac hs => ?_))
            refine lstep (wpO_in hs rfl rfl rfl (op_convBS hs none 6 rfl rfl rfl rfl rfl Try.underlying22 Try.underlying5 Try.underlying9 rfl fun ac hs => ?_))
            refine lstep (wpO_in hs rfl rfl rfl (op_move hs none rfl rfl rfl rfl fun ac hs => ?_))
            refine lstep (wpO_in hs rfl rfl rfl (op_convBS hs none 0 rfl rfl rfl rfl rfl Try.underlying22 Try.underlying5 Try.underlying9 rfl fun ac hs => ?_))
            refine lstep (wpO_in hs rfl rfl rfl (op_bin hs none (v := .bool false) rfl rfl rfl rfl (fun _ => rfl) (bin_neqT (decide_eq_true hq27)) rfl fun ac hs => ?_))
            refine lstep (wpO_plain rfl (op_pickF hs none rfl rfl rfl rfl rfl fun ac hs => ?_))
            refine wpList_nil ?_
            refine then_n ?_
            refine wp_cond_false (hs.ev rfl) ?_
            refine wp_skip ?_
            refine then_n ?_
            refine wp_seq ?_
            replace hs : St 98 ⟨w0, [], [(true, .cel (.slice a1 l.length c1) l.length (bcs l)), (true, .cel (.slice a2 p.length c2) p.length (bcs p)), (true, .cel (.slice ad6 p5.length cp7) p5.length (bcs p5)), (true, .cel (.slice ad9 l.length cp10) l.length (bcs l)), (true, .cel (.slice ad12 1 1) 1 ([.int .u8 ((o4 : Nat) : Int), .slice ad6 p5.length cp7])), (true, .cel (.slice ad13 ((layB o4 p5).length) cp14) ((layB o4 p5).length) (bcs (layB o4 p5))), (true, .cel (.slice ad17 b15.length cp18) b15.length (bcs b15)), (true, .cel (.slice ad20 1 1) 1 ([.int .u8 ((o : Nat) : Int), .slice a2 p.length c2])), (true, .cel (.slice ad23 b21.length cp24) b21.length (bcs b21))], Z, noX⟩ [(3, true, .pointer (some ⟨g1, 0, none⟩)), (4, true, .bool false), (8, true, .slice ad13 ((layB o4 p5).length) cp14), (12, true, .slice ad23 b21.length cp24)] [(true, g1, 25, [.int .u8 ((o : Nat) : Int), .slice a2 p.length c2]), (true, g8, 25, [.int .u8 ((o4 : Nat) : Int), .slice ad6 p5.length cp7])] ac _ := hs.re ⟨rfl, rfl, rfl, rfl, trivial⟩
            obtain ⟨q28, hq28⟩ : ∃ z0, shortB o p = z0 := ⟨_, rfl⟩
            refine region_inv [([], [1, 2, 3, 4, 5, 6, 7, 8, 9, 10, 11, 12, 13, 14, 15, 16, 17, 18]), ([0], [2, 3, 4, 5, 6, 7, 8, 9, 10, 11, 12, 13, 14, 15, 16, 17, 18]), ([0, 1], [3, 6, 7, 8, 9, 10, 11, 12, 13, 14, 15, 16, 17, 18]), ([0, 1, 2], [6, 7, 8, 9, 10, 11, 12, 13, 14, 15, 16, 17, 18]), ([0, 1], [5, 6, 7, 8, 9, 10, 11, 12, 13, 14, 15, 16, 17, 18]), ([0, 1, 4], [6, 7, 8, 9, 10, 11, 12, 13, 14, 15, 16, 17, 18]), ([0, 1, 2, 3, 4, 5], [7, 8, 9, 10, 11, 12, 13, 14, 15, 16, 17, 18]), ([0, 1, 2, 3, 4, 5, 6], [8, 9, 10, 11, 12, 13, 14, 15, 16, 17, 18]), ([0, 1, 2, 3, 4, 5, 6, 7], [9, 10, 11, 12, 13, 14, 15, 16, 17, 18]), ([0, 1, 2, 3, 4, 5, 6, 7, 8], [10, 16, 17, 18]), ([0, 1, 2, 3, 4, 5, 6, 7, 8, 9], [16, 17, 18]), ([0, 1, 2, 3, 4, 5, 6, 7, 8], [12, 15, 16, 17, 18]), ([0, 1, 2, 3, 4, 5, 6, 7, 8, 11], [15, 16, 17, 18]), ([0, 1, 2, 3, 4, 5, 6, 7, 8], [14, 15, 16, 17, 18]), ([0, 1, 2, 3, 4, 5, 6, 7, 8, 13], [15, 16, 17, 18]), ([0, 1, 2, 3, 4, 5, 6, 7, 8, 11, 12, 13, 14], [16, 17, 18]), ([0, 1, 2, 3, 4, 5, 6, 7, 8, 9, 10, 11, 12, 13, 14, 15], [17, 18]), ([0, 1, 2, 3, 4, 5, 6, 7, 8, 9, 10, 11, 12, 13, 14, 15, 16], [18]), ([0, 1, 2, 3, 4, 5, 6, 7, 8, 9, 10, 11, 12, 13, 14, 15, 16, 17], [])] (fun L ac w => St 98 ⟨w0, [], [(true, .cel (.slice a1 l.length c1) l.length (bcs l)), (true, .cel (.slice a2 p.length c2) p.length (bcs p)), (true, .cel (.slice ad6 p5.length cp7) p5.length (bcs p5)), (true, .cel (.slice ad9 l.length cp10) l.length (bcs l)), (true, .cel (.slice ad12 1 1) 1 ([.int .u8 ((o4 : Nat) : Int), .slice ad6 p5.length cp7])), (true, .cel (.slice ad13 ((layB o4 p5).length) cp14) ((layB o4 p5).length) (bcs (layB o4 p5))), (true, .cel (.slice ad17 b15.length cp18) b15.length (bcs b15)), (true, .cel (.slice ad20 1 1) 1 ([.int .u8 ((o : Nat) : Int), .slice a2 p.length c2])), (true, .cel (.slice ad23 b21.length cp24) b21.length (bcs b21))], Z, noX⟩ [(80, L 0, .bool true), (81, L 1, .bool true), (82, L 2, .slice ad23 b21.length cp24), (83, L 3, .int .i64 ((b21.length : Nat) : Int)), (84, L 4, .slice ad13 ((layB o4 p5).length) cp14), (85, L 5, .int .i64 (((layB o4 p5).length : Nat) : Int)), (86, L 6, .bool true), (87, L 7, .bool true), (88, L 8, .bool true), (89, L 9, .agg #[.int .u8 ((o : Nat) : Int), .slice a2 p.length c2]), (90, L 10, .bool q28), (91, L 11, .slice ad23 b21.length cp24), (92, L 12, .string (txt b21)), (93, L 13, .slice ad13 ((layB o4 p5).length) cp14), (94, L 14, .string (txt (layB o4 p5))), (95, L 15, .bool (decide (b21 = (layB o4 p5)))), (96, L 16, .bool true), (97, L 17, .bool true), (4, L 18, .bool true), (3, true, .pointer (some ⟨g1, 0, none⟩)), (4, true, .bool false), (8, true, .slice ad13 ((layB o4 p5).length) cp14), (12, true, .slice ad23 b21.length cp24)] [(true, g1, 25, [.int .u8 ((o : Nat) : Int), .slice a2 p.length c2]), (true, g8, 25, [.int .u8 ((o4 : Nat) : Int), .slice ad6 p5.length cp7])] ac w) (by kernel_rfl) (by kernel_rfl) ?_ ?_ ?_
            · exact hs.drew.skip.skip.skip.skip.skip.skip.skip.skip.skip.skip.skip.skip.skip.skip.skip.skip.skip.skip.skip
            · refine ⟨?_, ?_, ?_, ?_, ?_, ?_, ?_, ?_, ?_, ?_, ?_, ?_, ?_, ?_, ?_, ?_, ?_, ?_, ?_, trivial⟩
              · intro L ac w hJ
                have hs := hJ
                refine wpO_plain rfl (op_callS (F := 9) (ρ := Unit) hs (some 0) none (v := fun r => .bool true) (E := fun r => []) (j := 0) rfl rfl rfl rfl (Try.call9 _) (fun hs => alive_c _ _) (fun _ => rfl) rfl rfl fun _ ac w hs => ?_)
                exact hs
              · intro L ac w hJ
                have hs := hJ
                refine wpO_plain rfl (op_move hs (some 1) rfl rfl rfl rfl fun ac hs => ?_)
                exact hs
              · intro L ac w hJ
                have hs := hJ
                refine wpO_in hs rfl rfl rfl (op_move hs (some 2) rfl rfl rfl rfl fun ac hs => ?_)
                exact hs
              · intro L ac w hJ
                have hs := hJ
                refine wpO_in hs rfl rfl rfl (op_blt hs (some 3) (v := .int .i64 ((b21.length : Nat) : Int)) rfl rfl rfl (blt_len Try.underlying22) rfl fun ac hs => ?_)
                exact hs
              · intro L ac w hJ
                have hs := hJ
                refine wpO_in hs rfl rfl rfl (op_move hs (some 4) rfl rfl rfl rfl fun ac hs => ?_)
                exact hs
              · intro L ac w hJ
                have hs := hJ
                refine wpO_in hs rfl rfl rfl (op_blt hs (some 5) (v := .int .i64 (((layB o4 p5).length : Nat) : Int)) rfl rfl rfl (blt_len Try.underlying22) rfl fun ac hs => ?_)
                exact hs
              · intro L ac w hJ
                have hs := hJ
                refine wpO_in hs rfl rfl rfl (op_bin hs (some 6) (v := .bool true) rfl rfl rfl rfl (fun _ => rfl) (fun w => dT hlen (bin_geqN (x := b21.length) (y := (layB o4 p5).length) w)) rfl fun ac hs => ?_)
                exact hs
              · intro L ac w hJ
                have hs := hJ
                refine wpO_plain rfl (op_pickT hs (some 7) rfl rfl rfl rfl rfl fun ac hs => ?_)
                exact hs
              · intro L ac w hJ
                have hs := hJ
                refine wpO_plain rfl (op_move hs (some 8) rfl rfl rfl rfl fun ac hs => ?_)
                exact hs
              · intro L ac w hJ
                have hs := hJ
                refine wpO_in hs rfl rfl rfl (op_load hs (some 9) 0 (v := .agg #[.int .u8 ((o : Nat) : Int), .slice a2 p.length c2]) rfl rfl rfl rfl Try.isAgg25 Try.sizeOf25 rfl rfl fun ac hs => ?_)
                exact hs
              · intro L ac w hJ
                have hs := hJ
                refine wpO_in hs rfl rfl rfl (op_callS (F := 20) (ρ := Unit) hs (some 10) none (v := fun r => .bool q28) (E := fun r => []) (j := 0) rfl rfl rfl rfl (Try.call20 _) (fun hs => short_c o a2 p.length c2 p q28 (show o < 256 by omega) (show p.length ≤ 50000 by omega) hq28 _ _ (hs.all (k := 1) rfl rfl)) (fun _ => rfl) rfl rfl fun _ ac w hs => ?_)
                exact hs
              · intro L ac w hJ
                have hs := hJ
                refine wpO_in hs rfl rfl rfl (op_move hs (some 11) rfl rfl rfl rfl fun ac hs => ?_)
                exact hs
              · intro L ac w hJ
                have hs := hJ
                refine wpO_in hs rfl rfl rfl (op_convBS hs (some 12) 8 rfl rfl rfl rfl rfl Try.underlying22 Try.underlying5 Try.underlying9 rfl fun ac hs => ?_)
                exact hs
              · intro L ac w hJ
                have hs := hJ
                refine wpO_in hs rfl rfl rfl (op_move hs (some 13) rfl rfl rfl rfl fun ac hs => ?_)
                exact hs
              · intro L ac w hJ
                have hs := hJ
                refine wpO_in hs rfl rfl rfl (op_convBS hs (some 14) 5 rfl rfl rfl rfl rfl Try.underlying22 Try.underlying5 Try.underlying9 rfl fun ac hs => ?_)
                exact hs
              · intro L ac w hJ
                have hs := hJ
                refine wpO_in hs rfl rfl rfl (op_bin hs (some 15) (v := .bool (decide (b21 = (layB o4 p5)))) rfl rfl rfl rfl (fun _ => rfl) (bin_eqlT rfl) rfl fun ac hs => ?_)
                exact hs
              · intro L ac w hJ
                have hs := hJ
                refine wpO_in hs rfl rfl rfl (op_bin hs (some 16) (v := .bool true) rfl rfl rfl rfl (fun _ => rfl) (eqlB Try.underlying4 (eq_of_beq (by rw [← hq28, hb1.2]; exact short_eq (by omega) ho hpb hpq hb1.1 ho4))) rfl fun ac hs => ?_)
                exact hs
              · intro L ac w hJ
                have hs := hJ
                refine wpO_plain rfl (op_pickT hs (some 17) rfl rfl rfl rfl rfl fun ac hs => ?_)
                exact hs
              · intro L ac w hJ
                have hs := hJ
                refine wpO_plain rfl (op_assign hs (some 18) rfl rfl rfl rfl fun ac hs => ?_)
                exact hs
            intro ac w hJ
            replace hs : St 98 ⟨w0, [], [(true, .cel (.slice a1 l.length c1) l.length (bcs l)), (true, .cel (.slice a2 p.length c2) p.length (bcs p)), (true, .cel (.slice ad6 p5.length cp7) p5.length (bcs p5)), (true, .cel (.slice ad9 l.length cp10) l.length (bcs l)), (true, .cel (.slice ad12 1 1) 1 ([.int .u8 ((o4 : Nat) : Int), .slice ad6 p5.length cp7])), (true, .cel (.slice ad13 ((layB o4 p5).length) cp14) ((layB o4 p5).length) (bcs (layB o4 p5))), (true, .cel (.slice ad17 b15.length cp18) b15.length (bcs b15)), (true, .cel (.slice ad20 1 1) 1 ([.int .u8 ((o : Nat) : Int), .slice a2 p.length c2])), (true, .cel (.slice ad23 b21.length cp24) b21.length (bcs b21))], Z, noX⟩ [(80, true, .bool true), (81, true, .bool true), (82, true, .slice ad23 b21.length cp24), (83, true, .int .i64 ((b21.length : Nat) : Int)), (84, true, .slice ad13 ((layB o4 p5).length) cp14), (85, true, .int .i64 (((layB o4 p5).length : Nat) : Int)), (86, true, .bool true), (87, true, .bool true), (88, true, .bool true), (89, true, .agg #[.int .u8 ((o : Nat) : Int), .slice a2 p.length c2]), (90, true, .bool q28), (91, true, .slice ad23 b21.length cp24), (92, true, .string (txt b21)), (93, true, .slice ad13 ((layB o4 p5).length) cp14), (94, true, .string (txt (layB o4 p5))), (95, true, .bool (decide (b21 = (layB o4 p5)))), (96, true, .bool true), (97, true, .bool true), (4, true, .bool true), (3, true, .pointer (some ⟨g1, 0, none⟩)), (4, true, .bool false), (8, true, .slice ad13 ((layB o4 p5).length) cp14), (12, true, .slice ad23 b21.length cp24)] [(true, g1, 25, [.int .u8 ((o : Nat) : Int), .slice a2 p.length c2]), (true, g8, 25, [.int .u8 ((o4 : Nat) : Int), .slice ad6 p5.length cp7])] ac w := hJ
            refine then_n ?_
            refine wp_ret ?_
            exact bodyPost_ret (res1 rfl (rv_t hs rfl)) hs.defers ⟨(), rfl, hs.bel rfl, okl0⟩
          · skip
            replace hs : St 98 ⟨w0, [], [(true, .cel (.slice a1 l.length c1) l.length (bcs l)), (true, .cel (.slice a2 p.length c2) p.length (bcs p)), (true, .cel (.slice ad6 p5.length cp7) p5.length (bcs p5)), (true, .cel (.slice ad9 l.length cp10) l.length (bcs l)), (true, .cel (.slice ad12 1 1) 1 ([.int .u8 ((o4 : Nat) : Int), .slice ad6 p5.length cp7])), (true, .cel (.slice ad13 ((layB o4 p5).length) cp14) ((layB o4 p5).length) (bcs (layB o4 p5))), (true, .cel (.slice ad17 b15.length cp18) b15.length (bcs b15)), (true, .cel (.slice ad20 1 1) 1 ([.int .u8 ((o : Nat) : Int), .slice a2 p.length c2])), (true, .cel (.slice ad23 b21.length cp24) b21.length (bcs b21))], Z, noX⟩ [(0, true, .slice a1 l.length c1), (3, true, .pointer (some ⟨g1, 0, none⟩)), (4, true, .bool false), (8, true, .slice ad13 ((layB o4 p5).length) cp14), (10, true, .slice ad17 b15.length cp18), (11, true, .bool true), (12, true, .slice ad23 b21.length cp24), (13, true, .int .i64 ((er22 : Nat) : Int))] [(true, g1, 25, [.int .u8 ((o : Nat) : Int), .slice a2 p.length c2]), (true, g8, 25, [.int .u8 ((o4 : Nat) : Int), .slice ad6 p5.length cp7])] ac _ := hs.re ⟨rfl, rfl, rfl, rfl, rfl, rfl, rfl, rfl, trivial⟩
            refine wp_region_lit ?_
            refine lstep (wpO_plain rfl (op_move hs none rfl rfl rfl rfl fun ac hs => ?_))
            refine lstep (wpO_plain rfl (op_un hs none (v := .bool false) rfl rfl rfl (fun _ => rfl) rfl fun ac hs => ?_))
            refine lstep (wpO_plain rfl (op_move hs none rfl rfl rfl rfl fun ac hs => ?_))
            refine lstep (wpO_in hs rfl rfl rfl (op_move hs none rfl rfl rfl rfl fun ac hs => ?_))
            refine lstep (wpO_in hs rfl rfl rfl (op_bin hs none (v := .bool false) rfl rfl rfl rfl (fun _ => rfl) (fun w => dF (fun hh => hh hq26) (bin_neqN (x := er22) (y := 0) w)) rfl fun ac hs => ?_))
            refine lstep (wpO_plain rfl (op_pickF hs none rfl rfl rfl rfl rfl fun ac hs => ?_))
            refine lstep (wpO_plain rfl (op_move hs none rfl rfl rfl rfl fun ac hs => ?_))
            refine lstep (wpO_in hs rfl rfl rfl (op_move hs none rfl rfl rfl rfl fun ac hs => ?_))
            refine lstep (wpO_in hs rfl rfl rfl (op_convBS hs none 6 rfl rfl rfl rfl rfl Try.underlying22 Try.underlying5 Try.underlying9 rfl fun ac hs => ?_))
            refine lstep (wpO_in hs rfl rfl rfl (op_move hs none rfl rfl rfl rfl fun ac hs => ?_))
            refine lstep (wpO_in hs rfl rfl rfl (op_convBS hs none 0 rfl rfl rfl rfl rfl Try.underlying22 Try.underlying5 Try.underlying9 rfl fun ac hs => ?_))
            refine lstep (wpO_in hs rfl rfl rfl (op_bin hs none (v := .bool true) rfl rfl rfl rfl (fun _ => rfl) (bin_neqT (decide_eq_false hq27)) rfl fun ac hs => ?_))
            refine lstep (wpO_plain rfl (op_pickF hs none rfl rfl rfl rfl rfl fun ac hs => ?_))
            refine wpList_nil ?_
            refine then_n ?_
            refine wp_cond_true (hs.ev rfl) ?_
            refine wp_seq ?_
            replace hs : St 98 ⟨w0, [], [(true, .cel (.slice a1 l.length c1) l.length (bcs l)), (true, .cel (.slice a2 p.length c2) p.length (bcs p)), (true, .cel (.slice ad6 p5.length cp7) p5.length (bcs p5)), (true, .cel (.slice ad9 l.length cp10) l.length (bcs l)), (true, .cel (.slice ad12 1 1) 1 ([.int .u8 ((o4 : Nat) : Int), .slice ad6 p5.length cp7])), (true, .cel (.slice ad13 ((layB o4 p5).length) cp14) ((layB o4 p5).length) (bcs (layB o4 p5))), (true, .cel (.slice ad17 b15.length cp18) b15.length (bcs b15)), (true, .cel (.slice ad20 1 1) 1 ([.int .u8 ((o : Nat) : Int), .slice a2 p.length c2])), (true, .cel (.slice ad23 b21.length cp24) b21.length (bcs b21))], Z, noX⟩ [(3, true, .pointer (some ⟨g1, 0, none⟩)), (4, true, .bool false), (8, true, .slice ad13 ((layB o4 p5).length) cp14), (12, true, .slice ad23 b21.length cp24)] [(true, g1, 25, [.int .u8 ((o : Nat) : Int), .slice a2 p.length c2]), (true, g8, 25, [.int .u8 ((o4 : Nat) : Int), .slice ad6 p5.length cp7])] ac _ := hs.re ⟨rfl, rfl, rfl, rfl, trivial⟩
            refine wp_region_lit ?_
            refine lstep (wpO_plain rfl (op_callS (F := 9) (ρ := Unit) hs none none (v := fun r => .bool true) (E := fun r => []) (j := 0) rfl rfl rfl rfl (Try.call9 _) (fun hs => alive_c _ _) (fun _ => rfl) rfl rfl fun _ ac w hs => ?_))
            refine lstep (wpO_plain rfl (op_assign hs none rfl rfl rfl rfl fun ac hs => ?_))
            refine wpList_nil ?_
            refine then_n ?_
            refine wp_ret ?_
            refine then_r ?_
            exact bodyPost_ret (res1 rfl (rv_t hs rfl)) hs.defers ⟨(), rfl, hs.bel rfl, okl0⟩
        · skip
          replace hs : St 98 ⟨w0, [], [(true, .cel (.slice a1 l.length c1) l.length (bcs l)), (true, .cel (.slice a2 p.length c2) p.length (bcs p)), (true, .cel (.slice ad6 p5.length cp7) p5.length (bcs p5)), (true, .cel (.slice ad9 l.length cp10) l.length (bcs l)), (true, .cel (.slice ad12 1 1) 1 ([.int .u8 ((o4 : Nat) : Int), .slice ad6 p5.length cp7])), (true, .cel (.slice ad13 ((layB o4 p5).length) cp14) ((layB o4 p5).length) (bcs (layB o4 p5))), (true, .cel (.slice ad17 b15.length cp18) b15.length (bcs b15)), (true, .cel (.slice ad20 1 1) 1 ([.int .u8 ((o : Nat) : Int), .slice a2 p.length c2])), (true, .cel (.slice ad23 b21.length cp24) b21.length (bcs b21))], Z, noX⟩ [(0, true, .slice a1 l.length c1), (3, true, .pointer (some ⟨g1, 0, none⟩)), (4, true, .bool false), (8, true, .slice ad13 ((layB o4 p5).length) cp14), (10, true, .slice ad17 b15.length cp18), (11, true, .bool true), (12, true, .slice ad23 b21.length cp24), (13, true, .int .i64 ((er22 : Nat) : Int))] [(true, g1, 25, [.int .u8 ((o : Nat) : Int), .slice a2 p.length c2]), (true, g8, 25, [.int .u8 ((o4 : Nat) : Int), .slice ad6 p5.length cp7])] ac _ := hs.re ⟨rfl, rfl, rfl, rfl, rfl, rfl, rfl, rfl, trivial⟩
          refine wp_region_lit ?_
          refine lstep (wpO_plain rfl (op_move hs none rfl rfl rfl rfl fun ac hs => ?_))
          refine lstep (wpO_plain rfl (op_un hs none (v := .bool false) rfl rfl rfl (fun _ => rfl) rfl fun ac hs => ?_))
          refine lstep (wpO_plain rfl (op_move hs none rfl rfl rfl rfl fun ac hs => ?_))
          refine lstep (wpO_in hs rfl rfl rfl (op_move hs none rfl rfl rfl rfl fun ac hs => ?_))
          refine lstep (wpO_in hs rfl rfl rfl (op_bin hs none (v := .bool true) rfl rfl rfl rfl (fun _ => rfl) (fun w => dT hq26 (bin_neqN (x := er22) (y := 0) w)) rfl fun ac hs => ?_))
          refine lstep (wpO_plain rfl (op_pickF hs none rfl rfl rfl rfl rfl fun ac hs => ?_))
          refine lstep (wpO_plain rfl (op_move hs none rfl rfl rfl rfl fun ac hs => ?_))
          refine lstep (wpO_out hs none rfl rfl (.inl rfl) rfl rfl fun ac hs => ?_)
          refine lstep (wpO_out hs none rfl rfl (.inl rfl) rfl rfl fun ac hs => ?_)
          refine lstep (wpO_out hs none rfl rfl (.inl rfl) rfl rfl fun ac hs => ?_)
          refine lstep (wpO_out hs none rfl rfl (.inl rfl) rfl rfl fun ac hs => ?_)
          refine lstep (wpO_out hs none rfl rfl (.inl rfl) rfl rfl fun ac hs => ?_)
          refine lstep (wpO_plain rfl (op_pickT hs none rfl rfl rfl rfl rfl fun ac hs => ?_))
          refine wpList_nil ?_
          refine then_n ?_
          refine wp_cond_true (hs.ev rfl) ?_
          refine wp_seq ?_
          replace hs : St 98 ⟨w0, [], [(true, .cel (.slice a1 l.length c1) l.length (bcs l)), (true, .cel (.slice a2 p.length c2) p.length (bcs p)), (true, .cel (.slice ad6 p5.length cp7) p5.length (bcs p5)), (true, .cel (.slice ad9 l.length cp10) l.length (bcs l)), (true, .cel (.slice ad12 1 1) 1 ([.int .u8 ((o4 : Nat) : Int), .slice ad6 p5.length cp7])), (true, .cel (.slice ad13 ((layB o4 p5).length) cp14) ((layB o4 p5).length) (bcs (layB o4 p5))), (true, .cel (.slice ad17 b15.length cp18) b15.length (bcs b15)), (true, .cel (.slice ad20 1 1) 1 ([.int .u8 ((o : Nat) : Int), .slice a2 p.length c2])), (true, .cel (.slice ad23 b21.length cp24) b21.length (bcs b21))], Z, noX⟩ [(3, true, .pointer (some ⟨g1, 0, none⟩)), (4, true, .bool false), (8, true, .slice ad13 ((layB o4 p5).length) cp14), (12, true, .slice ad23 b21.length cp24)] [(true, g1, 25, [.int .u8 ((o : Nat) : Int), .slice a2 p.length c2]), (true, g8, 25, [.int .u8 ((o4 : Nat) : Int), .slice ad6 p5.length cp7])] ac _ := hs.re ⟨rfl, rfl, rfl, rfl, trivial⟩
          refine wp_region_lit ?_
          refine lstep (wpO_plain rfl (op_callS (F := 9) (ρ := Unit) hs none none (v := fun r => .bool true) (E := fun r => []) (j := 0) rfl rfl rfl rfl (Try.call9 _) (fun hs => alive_c _ _) (fun _ => rfl) rfl rfl fun _ ac w hs => ?_))
          refine lstep (wpO_plain rfl (op_assign hs none rfl rfl rfl rfl fun ac hs => ?_))
          refine wpList_nil ?_
          refine then_n ?_
          refine wp_ret ?_
          refine then_r ?_
          exact bodyPost_ret (res1 rfl (rv_t hs rfl)) hs.defers ⟨(), rfl, hs.bel rfl, okl0⟩
      · skip
        replace hs := hs.re (fs' := [(0, true, .slice a1 l.length c1), (3, true, .pointer (some ⟨g1, 0, none⟩)), (4, true, .bool false), (8, true, .slice ad13 ((layB o4 p5).length) cp14), (10, true, .slice ad17 b15.length cp18), (11, true, .bool false), (61, true, .agg #[.int .u8 ((o : Nat) : Int), .slice a2 p.length c2]), (62, true, .slice ad20 1 1), (63, true, .tuple #[.slice ad23 b21.length cp24, .int .i64 ((er22 : Nat) : Int)]), (60, true, .tuple #[.slice ad23 b21.length cp24, .int .i64 ((er22 : Nat) : Int)]), (64, true, .slice ad23 b21.length cp24), (65, true, .int .i64 ((er22 : Nat) : Int)), (12, true, .slice ad23 b21.length cp24), (13, true, .int .i64 ((er22 : Nat) : Int))]) ⟨rfl, rfl, rfl, rfl, rfl, congrArg some (congrArg Value.bool (Bool.eq_false_iff.2 hq25)), rfl, rfl, rfl, rfl, rfl, rfl, rfl, rfl, trivial⟩
        replace hs : St 98 ⟨w0, [], [(true, .cel (.slice a1 l.length c1) l.length (bcs l)), (true, .cel (.slice a2 p.length c2) p.length (bcs p)), (true, .cel (.slice ad6 p5.length cp7) p5.length (bcs p5)), (true, .cel (.slice ad9 l.length cp10) l.length (bcs l)), (true, .cel (.slice ad12 1 1) 1 ([.int .u8 ((o4 : Nat) : Int), .slice ad6 p5.length cp7])), (true, .cel (.slice ad13 ((layB o4 p5).length) cp14) ((layB o4 p5).length) (bcs (layB o4 p5))), (true, .cel (.slice ad17 b15.length cp18) b15.length (bcs b15)), (true, .cel (.slice ad20 1 1) 1 ([.int .u8 ((o : Nat) : Int), .slice a2 p.length c2])), (true, .cel (.slice ad23 b21.length cp24) b21.length (bcs b21))], Z, noX⟩ [(0, true, .slice a1 l.length c1), (3, true, .pointer (some ⟨g1, 0, none⟩)), (4, true, .bool false), (8, true, .slice ad13 ((layB o4 p5).length) cp14), (10, true, .slice ad17 b15.length cp18), (11, true, .bool false), (12, true, .slice ad23 b21.length cp24), (13, true, .int .i64 ((er22 : Nat) : Int))] [(true, g1, 25, [.int .u8 ((o : Nat) : Int), .slice a2 p.length c2]), (true, g8, 25, [.int .u8 ((o4 : Nat) : Int), .slice ad6 p5.length cp7])] ac _ := hs.re ⟨rfl, rfl, rfl, rfl, rfl, rfl, rfl, rfl, trivial⟩
        refine wp_region_lit ?_
        refine lstep (wpO_plain rfl (op_move hs none rfl rfl rfl rfl fun ac hs => ?_))
        refine lstep (wpO_plain rfl (op_un hs none (v := .bool true) rfl rfl rfl (fun _ => rfl) rfl fun ac hs => ?_))
        refine lstep (wpO_plain rfl (op_move hs none rfl rfl rfl rfl fun ac hs => ?_))
        refine lstep (wpO_out hs none rfl rfl (.inl rfl) rfl rfl fun ac hs => ?_)
        refine lstep (wpO_out hs none rfl rfl (.inl rfl) rfl rfl fun ac hs => ?_)
        refine lstep (wpO_plain rfl (op_pickT hs none rfl rfl rfl rfl rfl fun ac hs => ?_))
        refine lstep (wpO_plain rfl (op_move hs none rfl rfl rfl rfl fun ac hs => ?_))
        refine lstep (wpO_out hs none rfl rfl (.inl rfl) rfl rfl fun ac hs => ?_)
        refine lstep (wpO_out hs none rfl rfl (.inl rfl) rfl rfl fun ac hs => ?_)
        refine lstep (wpO_out hs none rfl rfl (.inl rfl) rfl rfl fun ac hs => ?_)
        refine lstep (wpO_out hs none rfl rfl (.inl rfl) rfl rfl fun ac hs => ?_)
        refine lstep (wpO_out hs none rfl rfl (.inl rfl) rfl rfl fun ac hs => ?_)
        refine lstep (wpO_plain rfl (op_pickT hs none rfl rfl rfl rfl rfl fun ac hs => ?_))
        refine wpList_nil ?_
        refine then_n ?_
        refine wp_cond_true (hs.ev rfl) ?_
        refine wp_seq ?_
        replace hs : St 98 ⟨w0, [], [(true, .cel (.slice a1 l.length c1) l.length (bcs l)), (true, .cel (.slice a2 p.length c2) p.length (bcs p)), (true, .cel (.slice ad6 p5.length cp7) p5.length (bcs p5)), (true, .cel (.slice ad9 l.length cp10) l.length (bcs l)), (true, .cel (.slice ad12 1 1) 1 ([.int .u8 ((o4 : Nat) : Int), .slice ad6 p5.length cp7])), (true, .cel (.slice ad13 ((layB o4 p5).length) cp14) ((layB o4 p5).length) (bcs (layB o4 p5))), (true, .cel (.slice ad17 b15.length cp18) b15.length (bcs b15)), (true, .cel (.slice ad20 1 1) 1 ([.int .u8 ((o : Nat) : Int), .slice a2 p.length c2])), (true, .cel (.slice ad23 b21.length cp24) b21.length (bcs b21))], Z, noX⟩ [(3, true, .pointer (some ⟨g1, 0, none⟩)), (4, true, .bool false), (8, true, .slice ad13 ((layB o4 p5).length) cp14), (12, true, .slice ad23 b21.length cp24)] [(true, g1, 25, [.int .u8 ((o : Nat) : Int), .slice a2 p.length c2]), (true, g8, 25, [.int .u8 ((o4 : Nat) : Int), .slice ad6 p5.length cp7])] ac _ := hs.re ⟨rfl, rfl, rfl, rfl, trivial⟩
        refine wp_region_lit ?_
        refine lstep (wpO_plain rfl (op_callS (F := 9) (ρ := Unit) hs none none (v := fun r => .bool true) (E := fun r => []) (j := 0) rfl rfl rfl rfl (Try.call9 _) (fun hs => alive_c _ _) (fun _ => rfl) rfl rfl fun _ ac w hs => ?_))
        refine lstep (wpO_plain rfl (op_assign hs none rfl rfl rfl rfl fun ac hs => ?_))
        refine wpList_nil ?_
        refine then_n ?_
        refine wp_ret ?_
        refine then_r ?_
        exact bodyPost_ret (res1 rfl (rv_t hs rfl)) hs.defers ⟨(), rfl, hs.bel rfl, okl0⟩
theorem only_law (a1 : Option Addr) (c1 : Nat) (l : List UInt8) (w0 : World) (Z : Nat → Prop) (hl : ByV w0 Z (.slice a1 l.length c1) l): Calls Try.prog 7 #[.slice a1 l.length c1] w0 fun e w' => Ret w0 Z (ρ := Unit) (fun r => .bool true) (fun r => []) e w' := by
  refine enterS (n := 96) (args := [.slice a1 l.length c1]) (S := [(true, .cel (.slice a1 l.length c1) l.length (bcs l))]) (Z := Z) Try.func7 rfl rfl (Nat.le_of_ble_eq_true rfl) (sokC hl sok0) rfl fun ac hs => ?_
  refine wp_seq ?_
  refine wp_region_lit ?_
  refine lstep (wpO_plain rfl (op_assign hs none rfl rfl rfl rfl fun ac hs => ?_))
  refine wpList_nil ?_
  refine then_n ?_
  refine wp_seq ?_
  refine wp_seq ?_
  refine wp_region_lit ?_
  refine lstep (wpO_plain rfl (op_move hs none rfl rfl rfl rfl fun ac hs => ?_))
  refine lstep (wpO_plain rfl (op_blt hs none (v := .int .i64 ((l.length : Nat) : Int)) rfl rfl rfl (blt_len Try.underlying22) rfl fun ac hs => ?_))
  refine lstep (wpO_plain rfl (op_bin hs none (v := .bool (decide (400 < l.length))) rfl rfl rfl rfl (fun _ => rfl) (bin_gtrN (x := l.length) (y := 400)) rfl fun ac hs => ?_))
  refine wpList_nil ?_
  refine then_n ?_
  refine wp_cond_split (hs.ev rfl) (fun hc => ?_) (fun hc => ?_)
  · skip
    have hp1 := of_decide_eq_true hc
    refine wp_seq ?_
    refine wp_region_lit ?_
    refine lstep (wpO_plain rfl (op_callS (F := 9) (ρ := Unit) hs none none (v := fun r => .bool true) (E := fun r => []) (j := 0) rfl rfl rfl rfl (Try.call9 _) (fun hs => alive_c _ _) (fun _ => rfl) rfl rfl fun _ ac w hs => ?_))
    refine lstep (wpO_plain rfl (op_assign hs none rfl rfl rfl rfl fun ac hs => ?_))
    refine wpList_nil ?_
    refine then_n ?_
    refine wp_ret ?_
    refine then_r ?_
    exact bodyPost_ret (res1 rfl (rv_t hs rfl)) hs.defers ⟨(), rfl, hs.bel rfl, okl0⟩
  · skip
    have hp2 := of_decide_eq_false hc
    refine wp_skip ?_
    refine then_n ?_
    refine wp_seq ?_
    refine wp_region_lit ?_
    refine lstep (wpO_plain rfl (op_move hs none rfl rfl rfl rfl fun ac hs => ?_))
    obtain ⟨ws3, er4, hws3⟩ : ∃ z0 z1, AW l = (z0, z1) := ⟨_, _, rfl⟩
    have aws3 := AW_all hws3
    refine lstep (wpO_plain rfl (op_callS (F := 12) (ρ := Option Addr × Nat × List Value) hs none none (v := fun r => .tuple #[.slice r.1 ws3.length r.2.1, .int .i64 ((er4 : Nat) : Int)]) (E := fun r => [.cel (.slice r.1 ws3.length r.2.1) ws3.length (wcl ws3 r.2.2), .bys r.2.2 (ws3.map Prod.snd)]) (j := 2) rfl rfl rfl rfl (Try.call12 _) (fun hs => all_c a1 l.length c1 l ws3 er4 (show l.length ≤ 100000 by omega) hws3 _ _ (hs.all (k := 0) rfl rfl)) (fun _ => rfl) rfl rfl fun ⟨ad5, cp6, vs7⟩ ac w hs => ?_))
    refine lstep (wpO_plain rfl (op_move hs none rfl rfl rfl rfl fun ac hs => ?_))
    refine lstep (wpO_plain rfl (op_extract hs none rfl rfl rfl rfl rfl fun ac hs => ?_))
    refine lstep (wpO_plain rfl (op_extract hs none rfl rfl rfl rfl rfl fun ac hs => ?_))
    refine lstep (wpO_plain rfl (op_assign hs none rfl rfl rfl rfl fun ac hs => ?_))
    refine lstep (wpO_plain rfl (op_assign hs none rfl rfl rfl rfl fun ac hs => ?_))
    refine wpList_nil ?_
    have hvl : vs7.length = ws3.length := by have := (hs.rowB (k := 2) (G := noX) (.inr rfl)).1; simpa using this
    refine then_n ?_
    refine wp_seq ?_
    refine wp_seq ?_
    replace hs : St 96 ⟨w0, [], [(true, .cel (.slice a1 l.length c1) l.length (bcs l)), (true, .cel (.slice ad5 ws3.length cp6) ws3.length (wcl ws3 vs7)), (true, .bys vs7 (ws3.map Prod.snd))], Z, noX⟩ [(0, true, .slice a1 l.length c1), (2, true, .bool false), (3, true, .slice ad5 ws3.length cp6), (4, true, .int .i64 ((er4 : Nat) : Int))] [] ac _ := hs.re ⟨rfl, rfl, rfl, rfl, trivial⟩
    refine wp_region_lit ?_
    refine lstep (wpO_plain rfl (op_move hs none rfl rfl rfl rfl fun ac hs => ?_))
    refine lstep (wpO_plain rfl (op_bin hs none (v := .bool (decide (er4 ≠ 0))) rfl rfl rfl rfl (fun _ => rfl) (bin_neqN (x := er4) (y := 0)) rfl fun ac hs => ?_))
    refine wpList_nil ?_
    refine then_n ?_
    refine wp_cond_split (hs.ev rfl) (fun hc => ?_) (fun hc => ?_)
    · skip
      have hp8 := of_decide_eq_true hc
      have hae := aws3.1.resolve_left (fun h => of_decide_eq_true hc h.1)
      refine wp_seq ?_
      refine wp_region_lit ?_
      refine lstep (wpO_plain rfl (op_callS (F := 9) (ρ := Unit) hs none none (v := fun r => .bool true) (E := fun r => []) (j := 0) rfl rfl rfl rfl (Try.call9 _) (fun hs => alive_c _ _) (fun _ => rfl) rfl rfl fun _ ac w hs => ?_))
      refine lstep (wpO_plain rfl (op_move hs none rfl rfl rfl rfl fun ac hs => ?_))
      refine lstep (wpO_in hs rfl rfl rfl (op_move hs none rfl rfl rfl rfl fun ac hs => ?_))
      refine lstep (wpO_in hs rfl rfl rfl (op_bin hs none (v := .bool true) rfl rfl rfl rfl (fun _ => rfl) (fun w => dT hae.1 (bin_eqlN (x := er4) (y := 2) w)) rfl fun ac hs => ?_))
      refine lstep (wpO_plain rfl (op_pickT hs none rfl rfl rfl rfl rfl fun ac hs => ?_))
      refine lstep (wpO_plain rfl (op_move hs none rfl rfl rfl rfl fun ac hs => ?_))
      refine lstep (wpO_in hs rfl rfl rfl (op_move hs none rfl rfl rfl rfl fun ac hs => ?_))
      refine lstep (wpO_in hs rfl rfl rfl (op_blt hs none (v := .int .i64 ((ws3.length : Nat) : Int)) rfl rfl rfl (blt_len Try.underlying29) rfl fun ac hs => ?_))
      refine lstep (wpO_in hs rfl rfl rfl (op_bin hs none (v := .bool true) rfl rfl rfl rfl (fun _ => rfl) (fun w => dT (by rw [hae.2]; rfl) (bin_eqlN (x := ws3.length) (y := 0) w)) rfl fun ac hs => ?_))
      refine lstep (wpO_plain rfl (op_pickT hs none rfl rfl rfl rfl rfl fun ac hs => ?_))
      refine lstep (wpO_plain rfl (op_assign hs none rfl rfl rfl rfl fun ac hs => ?_))
      refine wpList_nil ?_
      refine then_n ?_
      refine wp_ret ?_
      refine then_r ?_
      exact bodyPost_ret (res1 rfl (rv_t hs rfl)) hs.defers ⟨(), rfl, hs.bel rfl, okl0⟩
    · skip
      have hp9 := of_decide_eq_false hc
      have her : er4 = 0 := by simpa using hc
      have hae := aws3.1.resolve_right (fun h => by rw [h.1] at her; cases her)
      have hlw := aws3.2.1
      have hsm : Small ws3 := ⟨by omega, fun w hw => ⟨by have := (aws3.2.2 w hw).1; omega, (aws3.2.2 w hw).2⟩⟩
      rw [her] at hws3
      refine wp_skip ?_
      refine then_n ?_
      refine wp_seq ?_
      refine wp_region_lit ?_
      refine lstep (wpO_plain rfl (op_move hs none rfl rfl rfl rfl fun ac hs => ?_))
      refine lstep (wpO_plain rfl (op_callS (F := 25) (ρ := Option Addr × Nat) hs none none (v := fun r => .tuple #[.slice r.1 l.length r.2, .int .i64 0]) (E := fun r => [.cel (.slice r.1 l.length r.2) l.length (bcs l)]) (j := 1) rfl rfl rfl rfl (Try.call25 _) (fun hs => build_c ad5 cp6 ws3 vs7 l 0 hsm hae.2 _ _ (hs.all (k := 1) rfl rfl) (hs.all (k := 2) rfl rfl)) (fun _ => rfl) rfl rfl fun ⟨ad10, cp11⟩ ac w hs => ?_))
      refine lstep (wpO_plain rfl (op_move hs none rfl rfl rfl rfl fun ac hs => ?_))
      refine lstep (wpO_plain rfl (op_extract hs none rfl rfl rfl rfl rfl fun ac hs => ?_))
      refine lstep (wpO_plain rfl (op_extract hs none rfl rfl rfl rfl rfl fun ac hs => ?_))
      refine lstep (wpO_plain rfl (op_assign hs none rfl rfl rfl rfl fun ac hs => ?_))
      refine lstep (wpO_plain rfl (op_assign hs none rfl rfl rfl rfl fun ac hs => ?_))
      refine wpList_nil ?_
      refine then_n ?_
      refine wp_seq ?_
      refine wp_seq ?_
      replace hs : St 96 ⟨w0, [], [(true, .cel (.slice a1 l.length c1) l.length (bcs l)), (true, .cel (.slice ad5 ws3.length cp6) ws3.length (wcl ws3 vs7)), (true, .bys vs7 (ws3.map Prod.snd)), (true, .cel (.slice ad10 l.length cp11) l.length (bcs l))], Z, noX⟩ [(0, true, .slice a1 l.length c1), (2, true, .bool false), (3, true, .slice ad5 ws3.length cp6), (5, true, .slice ad10 l.length cp11), (6, true, .int .i64 0)] [] ac _ := hs.re ⟨rfl, rfl, rfl, rfl, rfl, trivial⟩
      refine wp_region_lit ?_
      refine lstep (wpO_plain rfl (op_move hs none rfl rfl rfl rfl fun ac hs => ?_))
      refine lstep (wpO_plain rfl (op_bin hs none (v := .bool false) rfl rfl rfl rfl (fun _ => rfl) (fun _ => by kernel_rfl) rfl fun ac hs => ?_))
      refine lstep (wpO_plain rfl (op_move hs none rfl rfl rfl rfl fun ac hs => ?_))
      refine lstep (wpO_in hs rfl rfl rfl (op_move hs none rfl rfl rfl rfl fun ac hs => ?_))
      refine lstep (wpO_in hs rfl rfl rfl (op_convBS hs none 3 rfl rfl rfl rfl rfl Try.underlying22 Try.underlying5 Try.underlying9 rfl fun ac hs => ?_))
      refine lstep (wpO_in hs rfl rfl rfl (op_move hs none rfl rfl rfl rfl fun ac hs => ?_))
      refine lstep (wpO_in hs rfl rfl rfl (op_convBS hs none 0 rfl rfl rfl rfl rfl Try.underlying22 Try.underlying5 Try.underlying9 rfl fun ac hs => ?_))
      refine lstep (wpO_in hs rfl rfl rfl (op_bin hs none (v := .bool false) rfl rfl rfl rfl (fun _ => rfl) (bin_neqT (decide_eq_true rfl)) rfl fun ac hs => ?_))
      refine lstep (wpO_plain rfl (op_pickF hs none rfl rfl rfl rfl rfl fun ac hs => ?_))
      refine wpList_nil ?_
      refine then_n ?_
      refine wp_cond_false (hs.ev rfl) ?_
      refine wp_skip ?_
      refine then_n ?_
      refine wp_seq ?_
      refine wp_seq ?_
      replace hs : St 96 ⟨w0, [], [(true, .cel (.slice a1 l.length c1) l.length (bcs l)), (true, .cel (.slice ad5 ws3.length cp6) ws3.length (wcl ws3 vs7)), (true, .bys vs7 (ws3.map Prod.snd)), (true, .cel (.slice ad10 l.length cp11) l.length (bcs l))], Z, noX⟩ [(0, true, .slice a1 l.length c1), (2, true, .bool false), (3, true, .slice ad5 ws3.length cp6)] [] ac _ := hs.re ⟨rfl, rfl, rfl, trivial⟩
      refine wp_region_lit ?_
      refine lstep (wpO_plain rfl (op_move hs none rfl rfl rfl rfl fun ac hs => ?_))
      refine lstep (wpO_plain rfl (op_blt hs none (v := .int .i64 ((l.length : Nat) : Int)) rfl rfl rfl (blt_len Try.underlying22) rfl fun ac hs => ?_))
      refine lstep (wpO_plain rfl (op_bin hs none (v := .bool (decide (l.length = 0))) rfl rfl rfl rfl (fun _ => rfl) (bin_eqlN (x := l.length) (y := 0)) rfl fun ac hs => ?_))
      refine wpList_nil ?_
      refine then_n ?_
      refine wp_cond_split (hs.ev rfl) (fun hc => ?_) (fun hc => ?_)
      · skip
        have hp12 := of_decide_eq_true hc
        refine wp_seq ?_
        refine wp_region_lit ?_
        refine lstep (wpO_plain rfl (op_callS (F := 9) (ρ := Unit) hs none none (v := fun r => .bool true) (E := fun r => []) (j := 0) rfl rfl rfl rfl (Try.call9 _) (fun hs => alive_c _ _) (fun _ => rfl) rfl rfl fun _ ac w hs => ?_))
        refine lstep (wpO_plain rfl (op_move hs none rfl rfl rfl rfl fun ac hs => ?_))
        refine lstep (wpO_in hs rfl rfl rfl (op_move hs none rfl rfl rfl rfl fun ac hs => ?_))
        refine lstep (wpO_in hs rfl rfl rfl (op_blt hs none (v := .int .i64 ((ws3.length : Nat) : Int)) rfl rfl rfl (blt_len Try.underlying29) rfl fun ac hs => ?_))
        refine lstep (wpO_in hs rfl rfl rfl (op_bin hs none (v := .bool true) rfl rfl rfl rfl (fun _ => rfl) (fun w => dT (by omega) (bin_eqlN (x := ws3.length) (y := 0) w)) rfl fun ac hs => ?_))
        refine lstep (wpO_plain rfl (op_pickT hs none rfl rfl rfl rfl rfl fun ac hs => ?_))
        refine lstep (wpO_plain rfl (op_assign hs none rfl rfl rfl rfl fun ac hs => ?_))
        refine wpList_nil ?_
        refine then_n ?_
        refine wp_ret ?_
        refine then_r ?_
        exact bodyPost_ret (res1 rfl (rv_t hs rfl)) hs.defers ⟨(), rfl, hs.bel rfl, okl0⟩
      · skip
        have hp13 := of_decide_eq_false hc
        obtain ⟨o, p, ws1, k, rfl, hN1, hA1, hkl, hpl, ho⟩ := AW_first (by omega) hws3
        have hl1 : ws1.length ≤ 400 := by simp only [List.length_cons] at hlw; omega
        refine wp_skip ?_
        refine then_n ?_
        refine wp_seq ?_
        refine wp_region_lit ?_
        refine lstep (wpO_plain rfl (op_move hs none rfl rfl rfl rfl fun ac hs => ?_))
        refine lstep (wpO_plain rfl (op_callS (F := 10) (ρ := Option Addr × Nat) hs none none (v := fun r => .tuple #[.agg #[.int .u8 ((o : Nat) : Int), .slice r.1 p.length r.2], .int .i64 ((k : Nat) : Int), .int .i64 0]) (E := fun r => [.cel (.slice r.1 p.length r.2) p.length (bcs p)]) (j := 1) rfl rfl rfl rfl (Try.call10 _) (fun hs => next_c a1 l.length c1 l 0 o p k 0 (show l.length ≤ 100000 by omega) hN1 _ _ (hs.all (k := 0) rfl rfl)) (fun _ => rfl) rfl rfl fun ⟨ad14, cp15⟩ ac w hs => ?_))
        refine lstep (wpO_plain rfl (op_move hs none rfl rfl rfl rfl fun ac hs => ?_))
        refine lstep (wpO_plain rfl (op_extract hs none rfl rfl rfl rfl rfl fun ac hs => ?_))
        refine lstep (wpO_plain rfl (op_extract hs none rfl rfl rfl rfl rfl fun ac hs => ?_))
        refine lstep (wpO_plain rfl (op_extract hs none rfl rfl rfl rfl rfl fun ac hs => ?_))
        refine lstep (wpO_plain rfl (op_alloc hs none none (cs := [.int .u8 0, .slice none 0 0]) rfl rfl Try.zeroValue25 (by kernel_rfl) rfl rfl fun g16 ac w hs => ?_))
        refine lstep (wpO_plain rfl (op_store hs 0 (vs := [.int .u8 ((o : Nat) : Int), .slice ad14 p.length cp15]) rfl rfl rfl rfl rfl Try.sizeOf25 rfl rfl rfl rfl rfl fun w hs => ?_))
        refine lstep (wpO_plain rfl (op_assign hs none rfl rfl rfl rfl fun ac hs => ?_))
        refine lstep (wpO_plain rfl (op_assign hs none rfl rfl rfl rfl fun ac hs => ?_))
        refine wpList_nil ?_
        refine then_n ?_
        refine wp_seq ?_
        replace hs : St 96 ⟨w0, [], [(true, .cel (.slice a1 l.length c1) l.length (bcs l)), (true, .cel (.slice ad5 (((o, p) :: ws1).length) cp6) (((o, p) :: ws1).length) (wcl ((o, p) :: ws1) vs7)), (true, .bys vs7 (((o, p) :: ws1).map Prod.snd)), (true, .cel (.slice ad10 l.length cp11) l.length (bcs l)), (true, .cel (.slice ad14 p.length cp15) p.length (bcs p))], Z, noX⟩ [(0, true, .slice a1 l.length c1), (2, true, .bool false), (3, true, .slice ad5 (((o, p) :: ws1).length) cp6), (7, true, .pointer (some ⟨g16, 0, none⟩)), (8, true, .int .i64 ((k : Nat) : Int)), (9, true, .int .i64 0)] [(true, g16, 25, [.int .u8 ((o : Nat) : Int), .slice ad14 p.length cp15])] ac _ := hs.re ⟨rfl, rfl, rfl, rfl, rfl, rfl, trivial⟩
        refine wp_region_lit ?_
        refine lstep (wpO_plain rfl (op_move hs none rfl rfl rfl rfl fun ac hs => ?_))
        refine lstep (wpO_plain rfl (op_move hs none rfl rfl rfl rfl fun ac hs => ?_))
        refine lstep (wpO_plain rfl (op_sliceR hs none none 0 k l.length (N' := (l.drop k).length) (cs' := bcs (l.drop k)) rfl rfl rfl rfl (.inr ⟨_, _, rfl, rfl⟩) (.inl ⟨rfl, rfl⟩) Try.underlying22 Try.sizeOf5 (show k ≤ l.length by omega) (show l.length ≤ l.length by omega) len_lo bcs_lo rfl rfl fun ac hs => ?_))
        refine lstep (wpO_plain rfl (op_callS (F := 12) (ρ := Option Addr × Nat × List Value) hs none none (v := fun r => .tuple #[.slice r.1 ws1.length r.2.1, .int .i64 0]) (E := fun r => [.cel (.slice r.1 ws1.length r.2.1) ws1.length (wcl ws1 r.2.2), .bys r.2.2 (ws1.map Prod.snd)]) (j := 2) rfl rfl rfl rfl (Try.call12 _) (fun hs => all_c (vsa a1 c1 1 k) ((l.drop k).length) (c1 - k) (l.drop k) ws1 0 (show (l.drop k).length ≤ 100000 by (try simp only [List.length_drop, List.length_take, List.length_append, List.length_cons, List.length_nil]); omega) hA1 _ _ (hs.all (k := 5) rfl rfl)) (fun _ => rfl) rfl rfl fun ⟨ad17, cp18, vs19⟩ ac w hs => ?_))
        refine lstep (wpO_plain rfl (op_move hs none rfl rfl rfl rfl fun ac hs => ?_))
        refine lstep (wpO_plain rfl (op_extract hs none rfl rfl rfl rfl rfl fun ac hs => ?_))
        refine lstep (wpO_plain rfl (op_extract hs none rfl rfl rfl rfl rfl fun ac hs => ?_))
        refine lstep (wpO_plain rfl (op_assign hs none rfl rfl rfl rfl fun ac hs => ?_))
        refine lstep (wpO_plain rfl (op_assign hs none rfl rfl rfl rfl fun ac hs => ?_))
        refine wpList_nil ?_
        have hw9 : ((o, p) :: ws1)[0]? = some (o, p) := rfl
        obtain ⟨aw_9, cw_9, hv9⟩ := bysv_at (hs.all (k := 2) rfl rfl) (i := 0) (l := p) (by simp [hw9])
        replace hs := hs.pick none 2 (l := p) rfl hv9 (by simp [hw9]) rfl
        refine then_n ?_
        refine wp_seq ?_
        replace hs : St 96 ⟨w0, [], [(true, .cel (.slice a1 l.length c1) l.length (bcs l)), (true, .cel (.slice ad5 (((o, p) :: ws1).length) cp6) (((o, p) :: ws1).length) (wcl ((o, p) :: ws1) vs7)), (true, .bys vs7 (((o, p) :: ws1).map Prod.snd)), (true, .cel (.slice ad10 l.length cp11) l.length (bcs l)), (true, .cel (.slice ad14 p.length cp15) p.length (bcs p)), (true, .cel (.slice (vsa a1 c1 1 k) ((l.drop k).length) (c1 - k)) ((l.drop k).length) (bcs (l.drop k))), (true, .cel (.slice ad17 ws1.length cp18) ws1.length (wcl ws1 vs19)), (true, .bys vs19 (ws1.map Prod.snd)), (true, .cel (.slice aw_9 p.length cw_9) p.length (bcs p))], Z, noX⟩ [(2, true, .bool false), (3, true, .slice ad5 (((o, p) :: ws1).length) cp6), (7, true, .pointer (some ⟨g16, 0, none⟩)), (9, true, .int .i64 0), (10, true, .slice ad17 ws1.length cp18), (11, true, .int .i64 0)] [(true, g16, 25, [.int .u8 ((o : Nat) : Int), .slice ad14 p.length cp15])] ac _ := hs.re ⟨rfl, rfl, rfl, rfl, rfl, rfl, trivial⟩
        refine region_inv [([], [1, 2, 3, 4, 5, 6, 7, 8, 9, 10, 11, 12, 13, 14, 15, 16, 17, 18, 19, 20, 21, 22, 23, 24, 25, 26, 27]), ([0], [2, 3, 4, 5, 6, 7, 8, 9, 10, 11, 12, 13, 14, 15, 16, 17, 18, 19, 20, 21, 22, 23, 24, 25, 26, 27]), ([0, 1], [3, 4, 5, 6, 7, 8, 9, 10, 11, 12, 13, 14, 15, 16, 17, 18, 19, 20, 21, 22, 23, 24, 25, 26, 27]), ([0, 1, 2], [4, 5, 6, 7, 8, 9, 10, 11, 12, 13, 14, 15, 16, 17, 18, 19, 20, 21, 22, 23, 24, 25, 26, 27]), ([0, 1, 2, 3], [5, 6, 7, 8, 9, 10, 11, 12, 13, 14, 15, 16, 17, 18, 19, 20, 21, 22, 23, 24, 25, 26, 27]), ([0, 1, 2, 3, 4], [6, 7, 8, 9, 10, 11, 12, 13, 14, 15, 16, 17, 18, 19, 20, 21, 22, 23, 24, 25, 26, 27]), ([0, 1, 2, 3, 4, 5], [7, 8, 9, 10, 11, 12, 13, 14, 15, 16, 17, 18, 19, 20, 21, 22, 23, 24, 25, 26, 27]), ([0, 1, 2, 3, 4, 5, 6], [8, 9, 10, 11, 12, 13, 14, 15, 16, 17, 18, 19, 20, 21, 22, 23, 24, 25, 26, 27]), ([0, 1, 2, 3, 4, 5, 6, 7], [9, 10, 11, 12, 13, 14, 15, 16, 17, 18, 19, 20, 21, 22, 23, 24, 25, 26, 27]), ([0, 1, 2, 3, 4, 5, 6, 7, 8], [10, 11, 12, 13, 14, 15, 16, 17, 18, 19, 20, 21, 22, 23, 24, 25, 26, 27]), ([0, 1, 2, 3, 4, 5, 6, 7, 8, 9], [11, 12, 13, 14, 15, 16, 17, 18, 19, 20, 21, 22, 23, 24, 25, 26, 27]), ([0, 1, 2, 3, 4, 5, 6, 7, 8, 9, 10], [12, 13, 14, 15, 16, 17, 18, 19, 20, 21, 22, 23, 24, 25, 26, 27]), ([0, 1, 2, 3, 4, 5, 6, 7, 8, 9, 10, 11], [13, 14, 15, 16, 17, 18, 19, 20, 21, 22, 23, 24, 25, 26, 27]), ([0, 1, 2, 3, 4, 5, 6, 7, 8, 9, 10, 11, 12], [14, 15, 16, 17, 18, 19, 20, 21, 22, 23, 24, 25, 26, 27]), ([0, 1, 2, 3, 4, 5, 6, 7, 8, 9, 10, 11, 12, 13], [15, 16, 17, 18, 19, 20, 21, 22, 23, 24, 25, 26, 27]), ([0, 1, 2, 3, 4, 5, 6, 7, 8, 9, 10, 11, 12, 13, 14], [19, 20, 21, 22, 23, 24, 25, 26, 27]), ([0, 1, 2, 3, 4, 5, 6, 7, 8, 9, 10, 11, 12, 13, 14], [17, 18, 19, 20, 21, 22, 23, 24, 25, 26, 27]), ([0, 1, 2, 3, 4, 5, 6, 7, 8, 9, 10, 11, 12, 13, 14, 16], [18, 19, 20, 21, 22, 23, 24, 25, 26, 27]), ([0, 1, 2, 3, 4, 5, 6, 7, 8, 9, 10, 11, 12, 13, 14, 16, 17], [19, 20, 21, 22, 23, 24, 25, 26, 27]), ([0, 1, 2, 3, 4, 5, 6, 7, 8, 9, 10, 11, 12, 13, 14, 15, 16, 17, 18], [20, 21, 22, 23, 24, 25, 26, 27]), ([0, 1, 2, 3, 4, 5, 6, 7, 8, 9, 10, 11, 12, 13, 14, 15, 16, 17, 18, 19], [21, 22, 23, 24, 25, 26, 27]), ([0, 1, 2, 3, 4, 5, 6, 7, 8, 9, 10, 11, 12, 13, 14, 15, 16, 17, 18, 19, 20], [22, 23, 24, 25, 26, 27]), ([0, 1, 2, 3, 4, 5, 6, 7, 8, 9, 10, 11, 12, 13, 14, 15, 16, 17, 18, 19, 20, 21], [25, 26, 27]), ([0, 1, 2, 3, 4, 5, 6, 7, 8, 9, 10, 11, 12, 13, 14, 15, 16, 17, 18, 19, 20, 21], [24, 25, 26, 27]), ([0, 1, 2, 3, 4, 5, 6, 7, 8, 9, 10, 11, 12, 13, 14, 15, 16, 17, 18, 19, 20, 21, 23], [25, 26, 27]), ([0, 1, 2, 3, 4, 5, 6, 7, 8, 9, 10, 11, 12, 13, 14, 15, 16, 17, 18, 19, 20, 21, 22, 23, 24], [26, 27]), ([0, 1, 2, 3, 4, 5, 6, 7, 8, 9, 10, 11, 12, 13, 14, 15, 16, 17, 18, 19, 20, 21, 22, 23, 24, 25], [27]), ([0, 1, 2, 3, 4, 5, 6, 7, 8, 9, 10, 11, 12, 13, 14, 15, 16, 17, 18, 19, 20, 21, 22, 23, 24, 25, 26], [])] (fun L ac w => St 96 ⟨w0, [], [(true, .cel (.slice a1 l.length c1) l.length (bcs l)), (true, .cel (.slice ad5 (((o, p) :: ws1).length) cp6) (((o, p) :: ws1).length) (wcl ((o, p) :: ws1) vs7)), (true, .bys vs7 (((o, p) :: ws1).map Prod.snd)), (true, .cel (.slice ad10 l.length cp11) l.length (bcs l)), (true, .cel (.slice ad14 p.length cp15) p.length (bcs p)), (true, .cel (.slice (vsa a1 c1 1 k) ((l.drop k).length) (c1 - k)) ((l.drop k).length) (bcs (l.drop k))), (true, .cel (.slice ad17 ws1.length cp18) ws1.length (wcl ws1 vs19)), (true, .bys vs19 (ws1.map Prod.snd)), (true, .cel (.slice aw_9 p.length cw_9) p.length (bcs p)), (L 24, .cel (.slice (vsa ad5 cp6 2 1) ws1.length (cp6 - 1)) ws1.length (wcl ws1 (vs7.drop 1)))], Z, noX⟩ [(69, L 0, .bool true), (70, L 1, .bool true), (71, L 2, .int .i64 0), (72, L 3, .bool true), (73, L 4, .bool true), (74, L 5, .bool true), (75, L 6, .int .i64 0), (76, L 7, .bool true), (77, L 8, .bool true), (78, L 9, .bool true), (79, L 10, .slice ad5 (((o, p) :: ws1).length) cp6), (80, L 11, .int .i64 ((((o, p) :: ws1).length : Nat) : Int)), (81, L 12, .bool true), (82, L 13, .bool true), (83, L 14, .bool true), (84, L 15, .agg #[.int .u8 ((o : Nat) : Int), .slice ad14 p.length cp15]), (85, L 16, .slice ad5 (((o, p) :: ws1).length) cp6), (86, L 17, vidx (.slice ad5 (((o, p) :: ws1).length) cp6) 0), (87, L 18, .agg #[.int .u8 ((o : Nat) : Int), .slice aw_9 p.length cw_9]), (88, L 19, .bool true), (89, L 20, .bool true), (90, L 21, .bool true), (91, L 22, .slice ad17 ws1.length cp18), (92, L 23, .slice ad5 (((o, p) :: ws1).length) cp6), (93, L 24, .slice (vsa ad5 cp6 2 1) ws1.length (cp6 - 1)), (94, L 25, .bool true), (95, L 26, .bool true), (2, L 27, .bool true), (2, true, .bool false), (3, true, .slice ad5 (((o, p) :: ws1).length) cp6), (7, true, .pointer (some ⟨g16, 0, none⟩)), (9, true, .int .i64 0), (10, true, .slice ad17 ws1.length cp18), (11, true, .int .i64 0)] [(true, g16, 25, [.int .u8 ((o : Nat) : Int), .slice ad14 p.length cp15])] ac w) (by kernel_rfl) (by kernel_rfl) ?_ ?_ ?_
        · exact hs.drew.skip.skip.skip.skip.skip.skip.skip.skip.skip.skip.skip.skip.skip.skip.skip.skip.skip.skip.skip.skip.skip.skip.skip.skip.skip.skip.skip.skip.padS
        · refine ⟨?_, ?_, ?_, ?_, ?_, ?_, ?_, ?_, ?_, ?_, ?_, ?_, ?_, ?_, ?_, ?_, ?_, ?_, ?_, ?_, ?_, ?_, ?_, ?_, ?_, ?_, ?_, ?_, trivial⟩
          · intro L ac w hJ
            have hs := hJ
            refine wpO_plain rfl (op_callS (F := 9) (ρ := Unit) hs (some 0) none (v := fun r => .bool true) (E := fun r => []) (j := 0) rfl rfl rfl rfl (Try.call9 _) (fun hs => alive_c _ _) (fun _ => rfl) rfl rfl fun _ ac w hs => ?_)
            exact hs
          · intro L ac w hJ
            have hs := hJ
            refine wpO_plain rfl (op_move hs (some 1) rfl rfl rfl rfl fun ac hs => ?_)
            exact hs
          · intro L ac w hJ
            have hs := hJ
            refine wpO_in hs rfl rfl rfl (op_move hs (some 2) rfl rfl rfl rfl fun ac hs => ?_)
            exact hs
          · intro L ac w hJ
            have hs := hJ
            refine wpO_in hs rfl rfl rfl (op_bin hs (some 3) (v := .bool true) rfl rfl rfl rfl (fun _ => rfl) (fun _ => by kernel_rfl) rfl fun ac hs => ?_)
            exact hs
          · intro L ac w hJ
            have hs := hJ
            refine wpO_plain rfl (op_pickT hs (some 4) rfl rfl rfl rfl rfl fun ac hs => ?_)
            exact hs
          · intro L ac w hJ
            have hs := hJ
            refine wpO_plain rfl (op_move hs (some 5) rfl rfl rfl rfl fun ac hs => ?_)
            exact hs
          · intro L ac w hJ
            have hs := hJ
            refine wpO_in hs rfl rfl rfl (op_move hs (some 6) rfl rfl rfl rfl fun ac hs => ?_)
            exact hs
          · intro L ac w hJ
            have hs := hJ
            refine wpO_in hs rfl rfl rfl (op_bin hs (some 7) (v := .bool true) rfl rfl rfl rfl (fun _ => rfl) (fun _ => by kernel_rfl) rfl fun ac hs => ?_)
            exact hs
          · intro L ac w hJ
            have hs := hJ
            refine wpO_plain rfl (op_pickT hs (some 8) rfl rfl rfl rfl rfl fun ac hs => ?_)
            exact hs
          · intro L ac w hJ
            have hs := hJ
            refine wpO_plain rfl (op_move hs (some 9) rfl rfl rfl rfl fun ac hs => ?_)
            exact hs
          · intro L ac w hJ
            have hs := hJ
            refine wpO_in hs rfl rfl rfl (op_move hs (some 10) rfl rfl rfl rfl fun ac hs => ?_)
            exact hs
          · intro L ac w hJ
            have hs := hJ
            refine wpO_in hs rfl rfl rfl (op_blt hs (some 11) (v := .int .i64 ((((o, p) :: ws1).length : Nat) : Int)) rfl rfl rfl (blt_len Try.underlying29) rfl fun ac hs => ?_)
            exact hs
          · intro L ac w hJ
            have hs := hJ
            refine wpO_in hs rfl rfl rfl (op_bin hs (some 12) (v := .bool true) rfl rfl rfl rfl (fun _ => rfl) (fun w => dT (Nat.succ_pos _) (bin_gtrN (x := ((o, p) :: ws1).length) (y := 0) w)) rfl fun ac hs => ?_)
            exact hs
          · intro L ac w hJ
            have hs := hJ
            refine wpO_plain rfl (op_pickT hs (some 13) rfl rfl rfl rfl rfl fun ac hs => ?_)
            exact hs
          · intro L ac w hJ
            have hs := hJ
            refine wpO_plain rfl (op_move hs (some 14) rfl rfl rfl rfl fun ac hs => ?_)
            exact hs
          · intro L ac w hJ
            have hs := hJ
            refine wpO_in hs rfl rfl rfl (op_load hs (some 15) 0 (v := .agg #[.int .u8 ((o : Nat) : Int), .slice ad14 p.length cp15]) rfl rfl rfl rfl Try.isAgg25 Try.sizeOf25 rfl rfl fun ac hs => ?_)
            exact hs
          · intro L ac w hJ
            have hs := hJ
            refine wpO_in hs rfl rfl rfl (op_move hs (some 16) rfl rfl rfl rfl fun ac hs => ?_)
            exact hs
          · intro L ac w hJ
            have hs := hJ
            refine wpO_in hs rfl rfl rfl (op_idxC hs (some 17) 1 (j := 0) rfl rfl rfl rfl rfl Try.underlying29 Try.sizeOf25 (show 0 < ((o, p) :: ws1).length by (try simp only [List.length_drop, List.length_take, List.length_append, List.length_cons, List.length_nil]); omega) (off := 0) (by omega) rfl fun ac hs => ?_)
            exact hs
          · intro L ac w hJ
            have hs := hJ
            refine wpO_in hs rfl rfl rfl (op_loadC hs (some 18) 1 (u := .agg #[.int .u8 ((o : Nat) : Int), .slice aw_9 p.length cw_9]) rfl rfl rfl rfl Try.isAgg25 Try.sizeOf25 (by decide) (wcl_ldv (i := 0) hw9 hv9) rfl fun ac hs => ?_)
            exact hs
          · intro L ac w hJ
            have hs := hJ
            refine wpO_in hs rfl rfl rfl (op_callU (F := 14) (ρ := Unit) hs (some 19) (v := fun r => .bool true) rfl rfl rfl rfl (Try.call14 _) (fun hs => same_c o ad14 p.length cp15 p o aw_9 p.length cw_9 p true (decide_eq_true ⟨rfl, rfl⟩) _ _ (hs.row (k := 4) rfl) (hs.row (k := 8) rfl)) rfl fun _ ac w hs => ?_)
            exact hs
          · intro L ac w hJ
            have hs := hJ
            refine wpO_plain rfl (op_pickT hs (some 20) rfl rfl rfl rfl rfl fun ac hs => ?_)
            exact hs
          · intro L ac w hJ
            have hs := hJ
            refine wpO_plain rfl (op_move hs (some 21) rfl rfl rfl rfl fun ac hs => ?_)
            exact hs
          · intro L ac w hJ
            have hs := hJ
            refine wpO_in hs rfl rfl rfl (op_move hs (some 22) rfl rfl rfl rfl fun ac hs => ?_)
            exact hs
          · intro L ac w hJ
            have hs := hJ
            refine wpO_in hs rfl rfl rfl (op_move hs (some 23) rfl rfl rfl rfl fun ac hs => ?_)
            exact hs
          · intro L ac w hJ
            have hs := hJ
            refine wpO_in hs rfl rfl rfl (op_sliceR hs (some 24) (some 9) 1 1 (((o, p) :: ws1).length) (N' := ws1.length) (cs' := wcl ws1 (vs7.drop 1)) rfl rfl rfl rfl (.inr ⟨_, _, rfl, rfl⟩) (.inl ⟨rfl, rfl⟩) Try.underlying29 Try.sizeOf25 (show 1 ≤ ((o, p) :: ws1).length by (try simp only [List.length_drop, List.length_take, List.length_append, List.length_cons, List.length_nil]); omega) (show ((o, p) :: ws1).length ≤ ((o, p) :: ws1).length by (try simp only [List.length_drop, List.length_take, List.length_append, List.length_cons, List.length_nil]); omega) rfl (wcl_tail hvl) rfl rfl fun ac hs => ?_)
            exact hs
          · intro L ac w hJ
            have hs := hJ
            refine wpO_in hs rfl rfl rfl (op_callU (F := 15) (ρ := Unit) hs (some 25) (v := fun r => .bool true) rfl rfl rfl rfl (Try.call15 _) (fun hs => sames_c ad17 cp18 ws1 vs19 (vsa ad5 cp6 2 1) (cp6 - 1) ws1 (vs7.drop 1) true (show ws1.length ≤ 100000 by omega) (show ws1.length ≤ 100000 by omega) (decide_eq_true rfl) _ _ (hs.row (k := 6) rfl) (hs.rowB (k := 7) (G := noX) (.inr rfl)) (hs.row (k := 9) rfl) (bysv_tail (hs.rowB (k := 2) (G := noX) (.inr rfl)))) rfl fun _ ac w hs => ?_)
            exact hs
          · intro L ac w hJ
            have hs := hJ
            refine wpO_plain rfl (op_pickT hs (some 26) rfl rfl rfl rfl rfl fun ac hs => ?_)
            exact hs
          · intro L ac w hJ
            have hs := hJ
            refine wpO_plain rfl (op_assign hs (some 27) rfl rfl rfl rfl fun ac hs => ?_)
            exact hs
        intro ac w hJ
        replace hs : St 96 ⟨w0, [], [(true, .cel (.slice a1 l.length c1) l.length (bcs l)), (true, .cel (.slice ad5 (((o, p) :: ws1).length) cp6) (((o, p) :: ws1).length) (wcl ((o, p) :: ws1) vs7)), (true, .bys vs7 (((o, p) :: ws1).map Prod.snd)), (true, .cel (.slice ad10 l.length cp11) l.length (bcs l)), (true, .cel (.slice ad14 p.length cp15) p.length (bcs p)), (true, .cel (.slice (vsa a1 c1 1 k) ((l.drop k).length) (c1 - k)) ((l.drop k).length) (bcs (l.drop k))), (true, .cel (.slice ad17 ws1.length cp18) ws1.length (wcl ws1 vs19)), (true, .bys vs19 (ws1.map Prod.snd)), (true, .cel (.slice aw_9 p.length cw_9) p.length (bcs p)), (true, .cel (.slice (vsa ad5 cp6 2 1) ws1.length (cp6 - 1)) ws1.length (wcl ws1 (vs7.drop 1)))], Z, noX⟩ [(69, true, .bool true), (70, true, .bool true), (71, true, .int .i64 0), (72, true, .bool true), (73, true, .bool true), (74, true, .bool true), (75, true, .int .i64 0), (76, true, .bool true), (77, true, .bool true), (78, true, .bool true), (79, true, .slice ad5 (((o, p) :: ws1).length) cp6), (80, true, .int .i64 ((((o, p) :: ws1).length : Nat) : Int)), (81, true, .bool true), (82, true, .bool true), (83, true, .bool true), (84, true, .agg #[.int .u8 ((o : Nat) : Int), .slice ad14 p.length cp15]), (85, true, .slice ad5 (((o, p) :: ws1).length) cp6), (86, true, vidx (.slice ad5 (((o, p) :: ws1).length) cp6) 0), (87, true, .agg #[.int .u8 ((o : Nat) : Int), .slice aw_9 p.length cw_9]), (88, true, .bool true), (89, true, .bool true), (90, true, .bool true), (91, true, .slice ad17 ws1.length cp18), (92, true, .slice ad5 (((o, p) :: ws1).length) cp6), (93, true, .slice (vsa ad5 cp6 2 1) ws1.length (cp6 - 1)), (94, true, .bool true), (95, true, .bool true), (2, true, .bool true), (2, true, .bool false), (3, true, .slice ad5 (((o, p) :: ws1).length) cp6), (7, true, .pointer (some ⟨g16, 0, none⟩)), (9, true, .int .i64 0), (10, true, .slice ad17 ws1.length cp18), (11, true, .int .i64 0)] [(true, g16, 25, [.int .u8 ((o : Nat) : Int), .slice ad14 p.length cp15])] ac w := hJ
        refine then_n ?_
        refine wp_ret ?_
        exact bodyPost_ret (res1 rfl (rv_t hs rfl)) hs.defers ⟨(), rfl, hs.bel rfl, okl0⟩
theorem next_law (a1 : Option Addr) (c1 : Nat) (l : List UInt8) (i0 : Int) (w0 : World) (Z : Nat → Prop) (hl : ByV w0 Z (.slice a1 l.length c1) l): Calls Try.prog 3 #[.slice a1 l.length c1, .int .i64 i0] w0 fun e w' => Ret w0 Z (ρ := Unit) (fun r => .bool true) (fun r => []) e w' := by
  refine enterS (n := 107) (args := [.slice a1 l.length c1, .int .i64 i0]) (S := [(true, .cel (.slice a1 l.length c1) l.length (bcs l))]) (Z := Z) Try.func3 rfl rfl (Nat.le_of_ble_eq_true rfl) (sokC hl sok0) rfl fun ac hs => ?_
  refine wp_seq ?_
  refine wp_region_lit ?_
  refine lstep (wpO_plain rfl (op_assign hs none rfl rfl rfl rfl fun ac hs => ?_))
  refine wpList_nil ?_
  refine then_n ?_
  refine wp_seq ?_
  refine wp_seq ?_
  refine wp_region_lit ?_
  refine lstep (wpO_plain rfl (op_move hs none rfl rfl rfl rfl fun ac hs => ?_))
  refine lstep (wpO_plain rfl (op_blt hs none (v := .int .i64 ((l.length : Nat) : Int)) rfl rfl rfl (blt_len Try.underlying22) rfl fun ac hs => ?_))
  refine lstep (wpO_plain rfl (op_bin hs none (v := .bool (decide (400 < l.length))) rfl rfl rfl rfl (fun _ => rfl) (bin_gtrN (x := l.length) (y := 400)) rfl fun ac hs => ?_))
  refine wpList_nil ?_
  refine then_n ?_
  refine wp_cond_split (hs.ev rfl) (fun hc => ?_) (fun hc => ?_)
  · skip
    have hp1 := of_decide_eq_true hc
    refine wp_seq ?_
    refine wp_region_lit ?_
    refine lstep (wpO_plain rfl (op_callS (F := 9) (ρ := Unit) hs none none (v := fun r => .bool true) (E := fun r => []) (j := 0) rfl rfl rfl rfl (Try.call9 _) (fun hs => alive_c _ _) (fun _ => rfl) rfl rfl fun _ ac w hs => ?_))
    refine lstep (wpO_plain rfl (op_assign hs none rfl rfl rfl rfl fun ac hs => ?_))
    refine wpList_nil ?_
    refine then_n ?_
    refine wp_ret ?_
    refine then_r ?_
    exact bodyPost_ret (res1 rfl (rv_t hs rfl)) hs.defers ⟨(), rfl, hs.bel rfl, okl0⟩
  · skip
    have hp2 := of_decide_eq_false hc
    refine wp_skip ?_
    refine then_n ?_
    refine wp_seq ?_
    refine wp_region_lit ?_
    refine lstep (wpO_plain rfl (op_bsO0 hs none none (size := 1) rfl rfl Try.underlying22 inf_u8_5 rfl rfl fun ad4 ac w hs => ?_))
    refine lstep (wpO_plain rfl (op_move hs none rfl rfl rfl rfl fun ac hs => ?_))
    refine lstep (wpO_plain rfl (op_appR hs none 1 0 (N' := l.length) (ys := bcs l) rfl rfl rfl rfl rfl rfl Try.underlying22 inf_u8_5 rfl (by decide) (bcs_len1 rfl) (bcs_one _) (by decide) (show 0 + l.length ≤ 1000000 by omega) (Nat.zero_add _) rfl rfl rfl fun ad5 cp6 ac w hs => ?_))
    refine lstep (wpO_plain rfl (op_assign hs none rfl rfl rfl rfl fun ac hs => ?_))
    refine wpList_nil ?_
    refine then_n ?_
    refine wp_seq ?_
    replace hs : St 107 ⟨w0, [], [(true, .cel (.slice a1 l.length c1) l.length (bcs l)), (true, .own (.slice ad5 l.length cp6) 5 1 l.length (bcs l))], Z, noX⟩ [(0, true, .slice a1 l.length c1), (1, true, .int .i64 i0), (4, true, .bool false), (5, true, .slice ad5 l.length cp6)] [] ac _ := hs.re ⟨rfl, rfl, rfl, rfl, trivial⟩
    refine wp_region_lit ?_
    refine lstep (wpO_plain rfl (op_move hs none rfl rfl rfl rfl fun ac hs => ?_))
    refine lstep (wpO_plain rfl (op_move hs none rfl rfl rfl rfl fun ac hs => ?_))
    replace hs := hs.freeze 1 rfl
    obtain ⟨o7, p8, k9, er10, ho7⟩ : ∃ z0 z1 z2 z3, NX l i0 = (z0, z1, z2, z3) := ⟨_, _, _, _, rfl⟩
    refine lstep (wpO_plain rfl (op_callS (F := 10) (ρ := Option Addr × Nat) hs none none (v := fun r => .tuple #[.agg #[.int .u8 ((o7 : Nat) : Int), .slice r.1 p8.length r.2], .int .i64 ((k9 : Nat) : Int), .int .i64 ((er10 : Nat) : Int)]) (E := fun r => [.cel (.slice r.1 p8.length r.2) p8.length (bcs p8)]) (j := 1) rfl rfl rfl rfl (Try.call10 _) (fun hs => next_c ad5 l.length cp6 l i0 o7 p8 k9 er10 (show l.length ≤ 100000 by omega) ho7 _ _ (hs.all (k := 1) rfl rfl)) (fun _ => rfl) rfl rfl fun ⟨ad11, cp12⟩ ac w hs => ?_))
    refine lstep (wpO_plain rfl (op_move hs none rfl rfl rfl rfl fun ac hs => ?_))
    refine lstep (wpO_plain rfl (op_extract hs none rfl rfl rfl rfl rfl fun ac hs => ?_))
    refine lstep (wpO_plain rfl (op_extract hs none rfl rfl rfl rfl rfl fun ac hs => ?_))
    refine lstep (wpO_plain rfl (op_extract hs none rfl rfl rfl rfl rfl fun ac hs => ?_))
    refine lstep (wpO_plain rfl (op_alloc hs none none (cs := [.int .u8 0, .slice none 0 0]) rfl rfl Try.zeroValue25 (by kernel_rfl) rfl rfl fun g13 ac w hs => ?_))
    refine lstep (wpO_plain rfl (op_store hs 0 (vs := [.int .u8 ((o7 : Nat) : Int), .slice ad11 p8.length cp12]) rfl rfl rfl rfl rfl Try.sizeOf25 rfl rfl rfl rfl rfl fun w hs => ?_))
    refine lstep (wpO_plain rfl (op_assign hs none rfl rfl rfl rfl fun ac hs => ?_))
    refine lstep (wpO_plain rfl (op_assign hs none rfl rfl rfl rfl fun ac hs => ?_))
    refine wpList_nil ?_
    refine then_n ?_
    refine wp_seq ?_
    replace hs : St 107 ⟨w0, [], [(true, .cel (.slice a1 l.length c1) l.length (bcs l)), (true, .cel (.slice ad5 l.length cp6) l.length (bcs l)), (true, .cel (.slice ad11 p8.length cp12) p8.length (bcs p8))], Z, noX⟩ [(0, true, .slice a1 l.length c1), (1, true, .int .i64 i0), (4, true, .bool false), (5, true, .slice ad5 l.length cp6), (6, true, .pointer (some ⟨g13, 0, none⟩)), (7, true, .int .i64 ((k9 : Nat) : Int)), (8, true, .int .i64 ((er10 : Nat) : Int))] [(true, g13, 25, [.int .u8 ((o7 : Nat) : Int), .slice ad11 p8.length cp12])] ac _ := hs.re ⟨rfl, rfl, rfl, rfl, rfl, rfl, rfl, trivial⟩
    refine wp_region_lit ?_
    refine lstep (wpO_plain rfl (op_move hs none rfl rfl rfl rfl fun ac hs => ?_))
    refine lstep (wpO_plain rfl (op_move hs none rfl rfl rfl rfl fun ac hs => ?_))
    refine lstep (wpO_plain rfl (op_callS (F := 11) (ρ := Option Addr × Nat) hs none none (v := fun r => .tuple #[.agg #[.int .u8 ((o7 : Nat) : Int), .slice r.1 p8.length r.2], .int .i64 ((k9 : Nat) : Int), .int .i64 ((er10 : Nat) : Int)]) (E := fun r => [.cel (.slice r.1 p8.length r.2) p8.length (bcs p8)]) (j := 1) rfl rfl rfl rfl (Try.call11 _) (fun hs => rnext_c a1 l.length c1 l i0 o7 p8 k9 er10 (show l.length ≤ 100000 by omega) ho7 _ _ (hs.all (k := 0) rfl rfl)) (fun _ => rfl) rfl rfl fun ⟨ad14, cp15⟩ ac w hs => ?_))
    refine lstep (wpO_plain rfl (op_move hs none rfl rfl rfl rfl fun ac hs => ?_))
    refine lstep (wpO_plain rfl (op_extract hs none rfl rfl rfl rfl rfl fun ac hs => ?_))
    refine lstep (wpO_plain rfl (op_extract hs none rfl rfl rfl rfl rfl fun ac hs => ?_))
    refine lstep (wpO_plain rfl (op_extract hs none rfl rfl rfl rfl rfl fun ac hs => ?_))
    refine lstep (wpO_plain rfl (op_alloc hs none none (cs := [.int .u8 0, .slice none 0 0]) rfl rfl Try.zeroValue25 (by kernel_rfl) rfl rfl fun g16 ac w hs => ?_))
    refine lstep (wpO_plain rfl (op_store hs 1 (vs := [.int .u8 ((o7 : Nat) : Int), .slice ad14 p8.length cp15]) rfl rfl rfl rfl rfl Try.sizeOf25 rfl rfl rfl rfl rfl fun w hs => ?_))
    refine lstep (wpO_plain rfl (op_assign hs none rfl rfl rfl rfl fun ac hs => ?_))
    refine lstep (wpO_plain rfl (op_assign hs none rfl rfl rfl rfl fun ac hs => ?_))
    refine wpList_nil ?_
    refine then_n ?_
    refine wp_seq ?_
    replace hs : St 107 ⟨w0, [], [(true, .cel (.slice a1 l.length c1) l.length (bcs l)), (true, .cel (.slice ad5 l.length cp6) l.length (bcs l)), (true, .cel (.slice ad11 p8.length cp12) p8.length (bcs p8)), (true, .cel (.slice ad14 p8.length cp15) p8.length (bcs p8))], Z, noX⟩ [(0, true, .slice a1 l.length c1), (4, true, .bool false), (5, true, .slice ad5 l.length cp6), (6, true, .pointer (some ⟨g13, 0, none⟩)), (7, true, .int .i64 ((k9 : Nat) : Int)), (8, true, .int .i64 ((er10 : Nat) : Int)), (9, true, .pointer (some ⟨g16, 0, none⟩)), (10, true, .int .i64 ((k9 : Nat) : Int)), (11, true, .int .i64 ((er10 : Nat) : Int))] [(true, g13, 25, [.int .u8 ((o7 : Nat) : Int), .slice ad11 p8.length cp12]), (true, g16, 25, [.int .u8 ((o7 : Nat) : Int), .slice ad14 p8.length cp15])] ac _ := hs.re ⟨rfl, rfl, rfl, rfl, rfl, rfl, rfl, rfl, rfl, trivial⟩
    refine wp_region_lit ?_
    refine lstep (wpO_plain rfl (op_move hs none rfl rfl rfl rfl fun ac hs => ?_))
    obtain ⟨ws17, er18, hws17⟩ : ∃ z0 z1, AW l = (z0, z1) := ⟨_, _, rfl⟩
    have aws17 := AW_all hws17
    refine lstep (wpO_plain rfl (op_callS (F := 12) (ρ := Option Addr × Nat × List Value × (Nat → Prop)) hs none none (v := fun r => .tuple #[.slice r.1 ws17.length r.2.1, .int .i64 ((er18 : Nat) : Int)]) (E := fun r => [.own (.slice r.1 ws17.length r.2.1) 25 2 ws17.length (wcl ws17 r.2.2.1), .bysO r.2.2.2 r.2.2.1 (ws17.map Prod.snd)]) (j := 2) rfl rfl rfl rfl (Try.call12 _) (fun hs => all_o ad5 l.length cp6 l ws17 er18 (show l.length ≤ 100000 by omega) hws17 _ _ (hs.all (k := 1) rfl rfl)) (fun _ => rfl) rfl rfl fun ⟨ad19, cp20, vs21, G22⟩ ac w hs => ?_))
    refine lstep (wpO_plain rfl (op_move hs none rfl rfl rfl rfl fun ac hs => ?_))
    refine lstep (wpO_plain rfl (op_extract hs none rfl rfl rfl rfl rfl fun ac hs => ?_))
    refine lstep (wpO_plain rfl (op_extract hs none rfl rfl rfl rfl rfl fun ac hs => ?_))
    refine lstep (wpO_plain rfl (op_assign hs none rfl rfl rfl rfl fun ac hs => ?_))
    refine lstep (wpO_plain rfl (op_assign hs none rfl rfl rfl rfl fun ac hs => ?_))
    refine wpList_nil ?_
    refine then_n ?_
    refine wp_seq ?_
    replace hs : St 107 ⟨w0, [], [(true, .cel (.slice a1 l.length c1) l.length (bcs l)), (true, .cel (.slice ad5 l.length cp6) l.length (bcs l)), (true, .cel (.slice ad11 p8.length cp12) p8.length (bcs p8)), (true, .cel (.slice ad14 p8.length cp15) p8.length (bcs p8)), (true, .own (.slice ad19 ws17.length cp20) 25 2 ws17.length (wcl ws17 vs21)), (true, .bysO G22 vs21 (ws17.map Prod.snd))], Z, noX⟩ [(0, true, .slice a1 l.length c1), (4, true, .bool false), (5, true, .slice ad5 l.length cp6), (6, true, .pointer (some ⟨g13, 0, none⟩)), (7, true, .int .i64 ((k9 : Nat) : Int)), (8, true, .int .i64 ((er10 : Nat) : Int)), (9, true, .pointer (some ⟨g16, 0, none⟩)), (10, true, .int .i64 ((k9 : Nat) : Int)), (11, true, .int .i64 ((er10 : Nat) : Int)), (12, true, .slice ad19 ws17.length cp20), (13, true, .int .i64 ((er18 : Nat) : Int))] [(true, g13, 25, [.int .u8 ((o7 : Nat) : Int), .slice ad11 p8.length cp12]), (true, g16, 25, [.int .u8 ((o7 : Nat) : Int), .slice ad14 p8.length cp15])] ac _ := hs.re ⟨rfl, rfl, rfl, rfl, rfl, rfl, rfl, rfl, rfl, rfl, rfl, trivial⟩
    refine wp_region_lit ?_
    refine lstep (wpO_plain rfl (op_move hs none rfl rfl rfl rfl fun ac hs => ?_))
    refine lstep (wpO_plain rfl (op_callS (F := 13) (ρ := Option Addr × Nat × List Value) hs none none (v := fun r => .tuple #[.slice r.1 ws17.length r.2.1, .int .i64 ((er18 : Nat) : Int)]) (E := fun r => [.cel (.slice r.1 ws17.length r.2.1) ws17.length (wcl ws17 r.2.2), .bys r.2.2 (ws17.map Prod.snd)]) (j := 2) rfl rfl rfl rfl (Try.call13 _) (fun hs => rall_c a1 l.length c1 l ws17 er18 (show l.length ≤ 100000 by omega) hws17 _ _ (hs.all (k := 0) rfl rfl)) (fun _ => rfl) rfl rfl fun ⟨ad23, cp24, vs25⟩ ac w hs => ?_))
    refine lstep (wpO_plain rfl (op_move hs none rfl rfl rfl rfl fun ac hs => ?_))
    refine lstep (wpO_plain rfl (op_extract hs none rfl rfl rfl rfl rfl fun ac hs => ?_))
    refine lstep (wpO_plain rfl (op_extract hs none rfl rfl rfl rfl rfl fun ac hs => ?_))
    refine lstep (wpO_plain rfl (op_assign hs none rfl rfl rfl rfl fun ac hs => ?_))
    refine lstep (wpO_plain rfl (op_assign hs none rfl rfl rfl rfl fun ac hs => ?_))
    refine wpList_nil ?_
    refine then_n ?_
    refine wp_seq ?_
    replace hs : St 107 ⟨w0, [], [(true, .cel (.slice a1 l.length c1) l.length (bcs l)), (true, .cel (.slice ad5 l.length cp6) l.length (bcs l)), (true, .cel (.slice ad11 p8.length cp12) p8.length (bcs p8)), (true, .cel (.slice ad14 p8.length cp15) p8.length (bcs p8)), (true, .own (.slice ad19 ws17.length cp20) 25 2 ws17.length (wcl ws17 vs21)), (true, .bysO G22 vs21 (ws17.map Prod.snd)), (true, .cel (.slice ad23 ws17.length cp24) ws17.length (wcl ws17 vs25)), (true, .bys vs25 (ws17.map Prod.snd))], Z, noX⟩ [(0, true, .slice a1 l.length c1), (4, true, .bool false), (5, true, .slice ad5 l.length cp6), (6, true, .pointer (some ⟨g13, 0, none⟩)), (7, true, .int .i64 ((k9 : Nat) : Int)), (8, true, .int .i64 ((er10 : Nat) : Int)), (9, true, .pointer (some ⟨g16, 0, none⟩)), (10, true, .int .i64 ((k9 : Nat) : Int)), (11, true, .int .i64 ((er10 : Nat) : Int)), (12, true, .slice ad19 ws17.length cp20), (13, true, .int .i64 ((er18 : Nat) : Int)), (14, true, .slice ad23 ws17.length cp24), (15, true, .int .i64 ((er18 : Nat) : Int))] [(true, g13, 25, [.int .u8 ((o7 : Nat) : Int), .slice ad11 p8.length cp12]), (true, g16, 25, [.int .u8 ((o7 : Nat) : Int), .slice ad14 p8.length cp15])] ac _ := hs.re ⟨rfl, rfl, rfl, rfl, rfl, rfl, rfl, rfl, rfl, rfl, rfl, rfl, rfl, trivial⟩
    refine wp_region_lit ?_
    refine lstep (wpO_plain rfl (op_load hs none 0 (v := .agg #[.int .u8 ((o7 : Nat) : Int), .slice ad11 p8.length cp12]) rfl rfl rfl rfl Try.isAgg25 Try.sizeOf25 rfl rfl fun ac hs => ?_))
    refine lstep (wpO_plain rfl (op_load hs none 1 (v := .agg #[.int .u8 ((o7 : Nat) : Int), .slice ad14 p8.length cp15]) rfl rfl rfl rfl Try.isAgg25 Try.sizeOf25 rfl rfl fun ac hs => ?_))
    refine lstep (wpO_plain rfl (op_callU (F := 14) (ρ := Unit) hs none (v := fun r => .bool true) rfl rfl rfl rfl (Try.call14 _) (fun hs => same_c o7 ad11 p8.length cp12 p8 o7 ad14 p8.length cp15 p8 true (decide_eq_true ⟨rfl, rfl⟩) _ _ (hs.row (k := 2) rfl) (hs.row (k := 3) rfl)) rfl fun _ ac w hs => ?_))
    refine lstep (wpO_plain rfl (op_move hs none rfl rfl rfl rfl fun ac hs => ?_))
    refine lstep (wpO_in hs rfl rfl rfl (op_move hs none rfl rfl rfl rfl fun ac hs => ?_))
    refine lstep (wpO_in hs rfl rfl rfl (op_move hs none rfl rfl rfl rfl fun ac hs => ?_))
    refine lstep (wpO_in hs rfl rfl rfl (op_bin hs none (v := .bool true) rfl rfl rfl rfl (fun _ => rfl) (fun w => dT rfl (bin_eqlN (x := k9) (y := k9) w)) rfl fun ac hs => ?_))
    refine lstep (wpO_plain rfl (op_pickT hs none rfl rfl rfl rfl rfl fun ac hs => ?_))
    refine lstep (wpO_plain rfl (op_move hs none rfl rfl rfl rfl fun ac hs => ?_))
    refine lstep (wpO_in hs rfl rfl rfl (op_move hs none rfl rfl rfl rfl fun ac hs => ?_))
    refine lstep (wpO_in hs rfl rfl rfl (op_move hs none rfl rfl rfl rfl fun ac hs => ?_))
    refine lstep (wpO_in hs rfl rfl rfl (op_bin hs none (v := .bool true) rfl rfl rfl rfl (fun _ => rfl) (fun w => dT rfl (bin_eqlN (x := er10) (y := er10) w)) rfl fun ac hs => ?_))
    refine lstep (wpO_plain rfl (op_pickT hs none rfl rfl rfl rfl rfl fun ac hs => ?_))
    refine lstep (wpO_plain rfl (op_move hs none rfl rfl rfl rfl fun ac hs => ?_))
    refine lstep (wpO_in hs rfl rfl rfl (op_move hs none rfl rfl rfl rfl fun ac hs => ?_))
    refine lstep (wpO_in hs rfl rfl rfl (op_move hs none rfl rfl rfl rfl fun ac hs => ?_))
    refine lstep (wpO_in hs rfl rfl rfl (op_callU (F := 15) (ρ := Unit) hs none (v := fun r => .bool true) rfl rfl rfl rfl (Try.call15 _) (fun hs => sames_c ad19 cp20 ws17 vs21 ad23 cp24 ws17 vs25 true (show ws17.length ≤ 100000 by omega) (show ws17.length ≤ 100000 by omega) (decide_eq_true rfl) _ _ (hs.row (k := 4) rfl) (hs.rowB (k := 5) (G := G22) (.inl rfl)) (hs.row (k := 6) rfl) (hs.rowB (k := 7) (G := noX) (.inr rfl))) rfl fun _ ac w hs => ?_))
    refine lstep (wpO_plain rfl (op_pickT hs none rfl rfl rfl rfl rfl fun ac hs => ?_))
    refine lstep (wpO_plain rfl (op_move hs none rfl rfl rfl rfl fun ac hs => ?_))
    refine lstep (wpO_in hs rfl rfl rfl (op_move hs none rfl rfl rfl rfl fun ac hs => ?_))
    refine lstep (wpO_in hs rfl rfl rfl (op_move hs none rfl rfl rfl rfl fun ac hs => ?_))
    refine lstep (wpO_in hs rfl rfl rfl (op_bin hs none (v := .bool true) rfl rfl rfl rfl (fun _ => rfl) (fun w => dT rfl (bin_eqlN (x := er18) (y := er18) w)) rfl fun ac hs => ?_))
    refine lstep (wpO_plain rfl (op_pickT hs none rfl rfl rfl rfl rfl fun ac hs => ?_))
    refine lstep (wpO_plain rfl (op_assign hs none rfl rfl rfl rfl fun ac hs => ?_))
    refine wpList_nil ?_
    replace hs := hs.toWrs 5 rfl
    refine then_n ?_
    refine wp_seq ?_
    refine wp_seq ?_
    replace hs : St 107 ⟨w0, [], [(true, .cel (.slice a1 l.length c1) l.length (bcs l)), (true, .cel (.slice ad5 l.length cp6) l.length (bcs l)), (true, .cel (.slice ad11 p8.length cp12) p8.length (bcs p8)), (true, .cel (.slice ad14 p8.length cp15) p8.length (bcs p8)), (true, .own (.slice ad19 ws17.length cp20) 25 2 ws17.length (wcl ws17 vs21)), (true, .wrs G22 vs21 ((ws17.map Prod.snd).map List.length)), (true, .cel (.slice ad23 ws17.length cp24) ws17.length (wcl ws17 vs25)), (true, .bys vs25 (ws17.map Prod.snd))], Z, noX⟩ [(0, true, .slice a1 l.length c1), (4, true, .bool false), (5, true, .slice ad5 l.length cp6), (12, true, .slice ad19 ws17.length cp20), (16, true, .bool true)] [(true, g13, 25, [.int .u8 ((o7 : Nat) : Int), .slice ad11 p8.length cp12]), (true, g16, 25, [.int .u8 ((o7 : Nat) : Int), .slice ad14 p8.length cp15])] ac _ := hs.re ⟨rfl, rfl, rfl, rfl, rfl, trivial⟩
    refine wp_region_lit ?_
    refine lstep (wpO_plain rfl (op_assign hs none rfl rfl rfl rfl fun ac hs => ?_))
    refine wpList_nil ?_
    refine then_n ?_
    refine wp_block ?_
    refine wp_loop_m (fun μ ac w => ∃ (i : Nat), (ws17.length - i) = μ ∧ (i ≤ ws17.length) ∧ St 107 ⟨w0, [], [(true, .cel (.slice a1 l.length c1) l.length (bcs l)), (true, .cel (.slice ad5 l.length cp6) l.length (bcs l)), (true, .cel (.slice ad11 p8.length cp12) p8.length (bcs p8)), (true, .cel (.slice ad14 p8.length cp15) p8.length (bcs p8)), (true, .own (.slice ad19 ws17.length cp20) 25 2 ws17.length (wcl ws17 vs21)), (true, .wrs G22 vs21 ((ws17.map Prod.snd).map List.length)), (true, .cel (.slice ad23 ws17.length cp24) ws17.length (wcl ws17 vs25)), (true, .bys vs25 (ws17.map Prod.snd))], Z, noX⟩ [(0, true, .slice a1 l.length c1), (4, true, .bool false), (5, true, .slice ad5 l.length cp6), (12, true, .slice ad19 ws17.length cp20), (16, true, .bool true), (17, true, .int .i64 ((i : Nat) : Int))] [(true, g13, 25, [.int .u8 ((o7 : Nat) : Int), .slice ad11 p8.length cp12]), (true, g16, 25, [.int .u8 ((o7 : Nat) : Int), .slice ad14 p8.length cp15])] ac w) ?_ ?_
    · exact ⟨_, 0, rfl, (by omega), (hs.re (fs' := [(0, true, .slice a1 l.length c1), (4, true, .bool false), (5, true, .slice ad5 l.length cp6), (12, true, .slice ad19 ws17.length cp20), (16, true, .bool true), (17, true, .int .i64 ((0 : Nat) : Int))]) ⟨rfl, rfl, rfl, rfl, rfl, rfl, trivial⟩)⟩
    intro μ ac w ⟨i, hμ, hi, hs⟩
    refine wp_seq ?_
    refine wp_seq ?_
    refine wp_region_lit ?_
    refine lstep (wpO_plain rfl (op_move hs none rfl rfl rfl rfl fun ac hs => ?_))
    refine lstep (wpO_plain rfl (op_move hs none rfl rfl rfl rfl fun ac hs => ?_))
    refine lstep (wpO_plain rfl (op_blt hs none (v := .int .i64 ((ws17.length : Nat) : Int)) rfl rfl rfl (blt_len Try.underlying29) rfl fun ac hs => ?_))
    refine lstep (wpO_plain rfl (op_bin hs none (v := .bool (decide (i < ws17.length))) rfl rfl rfl rfl (fun _ => rfl) (bin_lssN (x := i) (y := ws17.length)) rfl fun ac hs => ?_))
    refine wpList_nil ?_
    refine then_n ?_
    refine wp_cond_split (hs.ev rfl) (fun hc => ?_) (fun hc => ?_)
    · skip
      have hp26 := of_decide_eq_true hc
      have hlt := hp26
      have hlw := aws17.2.1
      obtain ⟨⟨ow1, pw1⟩, hw1⟩ : ∃ z, ws17[i]? = some z := ⟨_, List.getElem?_eq_getElem (show i < ws17.length by omega)⟩
      obtain ⟨aw_1, cw_1, hv1⟩ := hs.wrs_at (k := 5) rfl (i := i) (N := pw1.length) (by simp [hw1])
      have hlp := (aws17.2.2 _ (List.mem_of_getElem? hw1)).1
      simp only at hlp
      refine wp_skip ?_
      refine then_n ?_
      refine wp_seq ?_
      refine wp_block ?_
      refine wp_seq ?_
      refine wp_region_lit ?_
      refine lstep (wpO_plain rfl (op_assign hs none rfl rfl rfl rfl fun ac hs => ?_))
      refine wpList_nil ?_
      refine then_n ?_
      refine wp_block ?_
      refine wp_loop_m (fun μ ac w => ∃ (j : Nat), (pw1.length - j) = μ ∧ (j ≤ pw1.length) ∧ St 107 ⟨w0, [], [(true, .cel (.slice a1 l.length c1) l.length (bcs l)), (true, .cel (.slice ad5 l.length cp6) l.length (bcs l)), (true, .cel (.slice ad11 p8.length cp12) p8.length (bcs p8)), (true, .cel (.slice ad14 p8.length cp15) p8.length (bcs p8)), (true, .own (.slice ad19 ws17.length cp20) 25 2 ws17.length (wcl ws17 vs21)), (true, .wrs G22 vs21 ((ws17.map Prod.snd).map List.length)), (true, .cel (.slice ad23 ws17.length cp24) ws17.length (wcl ws17 vs25)), (true, .bys vs25 (ws17.map Prod.snd))], Z, noX⟩ [(0, true, .slice a1 l.length c1), (4, true, .bool false), (5, true, .slice ad5 l.length cp6), (12, true, .slice ad19 ws17.length cp20), (16, true, .bool true), (17, true, .int .i64 ((i : Nat) : Int)), (18, true, .int .i64 ((j : Nat) : Int))] [(true, g13, 25, [.int .u8 ((o7 : Nat) : Int), .slice ad11 p8.length cp12]), (true, g16, 25, [.int .u8 ((o7 : Nat) : Int), .slice ad14 p8.length cp15])] ac w) ?_ ?_
      · exact ⟨_, 0, rfl, (by omega), (hs.re (fs' := [(0, true, .slice a1 l.length c1), (4, true, .bool false), (5, true, .slice ad5 l.length cp6), (12, true, .slice ad19 ws17.length cp20), (16, true, .bool true), (17, true, .int .i64 ((i : Nat) : Int)), (18, true, .int .i64 ((0 : Nat) : Int))]) ⟨rfl, rfl, rfl, rfl, rfl, rfl, rfl, trivial⟩)⟩
      intro μ ac w ⟨j, hμ, hj, hs⟩
      refine wp_seq ?_
      refine wp_seq ?_
      refine wp_region_lit ?_
      refine lstep (wpO_plain rfl (op_move hs none rfl rfl rfl rfl fun ac hs => ?_))
      refine lstep (wpO_plain rfl (op_move hs none rfl rfl rfl rfl fun ac hs => ?_))
      refine lstep (wpO_plain rfl (op_move hs none rfl rfl rfl rfl fun ac hs => ?_))
      refine lstep (wpO_plain rfl (op_idxC hs none 4 (j := i) rfl rfl rfl rfl rfl Try.underlying29 Try.sizeOf25 (show i < ws17.length by omega) (off := i * 2) (by omega) rfl fun ac hs => ?_))
      refine lstep (wpO_plain rfl (op_fieldC hs none 4 rfl rfl rfl rfl (wcl_lt (i := i) hw1 hv1) Try.underlying25 rfl Try.sizeOf22 (by decide) (off' := i * 2 + 1) rfl rfl fun ac hs => ?_))
      refine lstep (wpO_plain rfl (op_loadC hs none 4 (u := .slice aw_1 pw1.length cw_1) rfl rfl rfl rfl Try.isAgg22 Try.sizeOf22 (by decide) (wcl_f1 (i := i) hw1 hv1) rfl fun ac hs => ?_))
      refine lstep (wpO_plain rfl (op_blt hs none (v := .int .i64 ((pw1.length : Nat) : Int)) rfl rfl rfl (blt_len Try.underlying22) rfl fun ac hs => ?_))
      refine lstep (wpO_plain rfl (op_bin hs none (v := .bool (decide (j < pw1.length))) rfl rfl rfl rfl (fun _ => rfl) (bin_lssN (x := j) (y := pw1.length)) rfl fun ac hs => ?_))
      refine wpList_nil ?_
      refine then_n ?_
      refine wp_cond_split (hs.ev rfl) (fun hc => ?_) (fun hc => ?_)
      · skip
        have hp27 := of_decide_eq_true hc
        refine wp_skip ?_
        refine then_n ?_
        refine wp_seq ?_
        refine wp_block ?_
        replace hs : St 107 ⟨w0, [], [(true, .cel (.slice a1 l.length c1) l.length (bcs l)), (true, .cel (.slice ad5 l.length cp6) l.length (bcs l)), (true, .cel (.slice ad11 p8.length cp12) p8.length (bcs p8)), (true, .cel (.slice ad14 p8.length cp15) p8.length (bcs p8)), (true, .own (.slice ad19 ws17.length cp20) 25 2 ws17.length (wcl ws17 vs21)), (true, .wrs G22 vs21 ((ws17.map Prod.snd).map List.length)), (true, .cel (.slice ad23 ws17.length cp24) ws17.length (wcl ws17 vs25)), (true, .bys vs25 (ws17.map Prod.snd))], Z, noX⟩ [(0, true, .slice a1 l.length c1), (4, true, .bool false), (5, true, .slice ad5 l.length cp6), (12, true, .slice ad19 ws17.length cp20), (16, true, .bool true), (17, true, .int .i64 ((i : Nat) : Int)), (18, true, .int .i64 ((j : Nat) : Int))] [(true, g13, 25, [.int .u8 ((o7 : Nat) : Int), .slice ad11 p8.length cp12]), (true, g16, 25, [.int .u8 ((o7 : Nat) : Int), .slice ad14 p8.length cp15])] ac _ := hs.re ⟨rfl, rfl, rfl, rfl, rfl, rfl, rfl, trivial⟩
        refine wp_region_lit ?_
        refine lstep (wpO_plain rfl (op_move hs none rfl rfl rfl rfl fun ac hs => ?_))
        refine lstep (wpO_plain rfl (op_move hs none rfl rfl rfl rfl fun ac hs => ?_))
        refine lstep (wpO_plain rfl (op_idxC hs none 4 (j := i) rfl rfl rfl rfl rfl Try.underlying29 Try.sizeOf25 (show i < ws17.length by omega) (off := i * 2) (by omega) rfl fun ac hs => ?_))
        refine lstep (wpO_plain rfl (op_fieldC hs none 4 rfl rfl rfl rfl (wcl_lt (i := i) hw1 hv1) Try.underlying25 rfl Try.sizeOf22 (by decide) (off' := i * 2 + 1) rfl rfl fun ac hs => ?_))
        refine lstep (wpO_plain rfl (op_loadC hs none 4 (u := .slice aw_1 pw1.length cw_1) rfl rfl rfl rfl Try.isAgg22 Try.sizeOf22 (by decide) (wcl_f1 (i := i) hw1 hv1) rfl fun ac hs => ?_))
        refine lstep (wpO_plain rfl (op_move hs none rfl rfl rfl rfl fun ac hs => ?_))
        refine lstep (wpO_plain rfl (op_idxW hs none 5 i (j := j) rfl rfl rfl rfl rfl hv1 (by simp [hw1]) Try.underlying22 Try.sizeOf5 (show j < pw1.length by omega) rfl fun ac hs => ?_))
        refine lstep (wpO_plain rfl (op_storeW hs 5 i (j := j) (u := .int .u8 33) rfl rfl rfl rfl rfl rfl hv1 (by simp [hw1]) (show j < pw1.length by omega) Try.sizeOf5 rfl rfl fun w hs => ?_))
        refine wpList_nil ?_
        refine blk_n ?_
        refine then_n ?_
        replace hs : St 107 ⟨w0, [], [(true, .cel (.slice a1 l.length c1) l.length (bcs l)), (true, .cel (.slice ad5 l.length cp6) l.length (bcs l)), (true, .cel (.slice ad11 p8.length cp12) p8.length (bcs p8)), (true, .cel (.slice ad14 p8.length cp15) p8.length (bcs p8)), (true, .own (.slice ad19 ws17.length cp20) 25 2 ws17.length (wcl ws17 vs21)), (true, .wrs G22 vs21 ((ws17.map Prod.snd).map List.length)), (true, .cel (.slice ad23 ws17.length cp24) ws17.length (wcl ws17 vs25)), (true, .bys vs25 (ws17.map Prod.snd))], Z, noX⟩ [(0, true, .slice a1 l.length c1), (4, true, .bool false), (5, true, .slice ad5 l.length cp6), (12, true, .slice ad19 ws17.length cp20), (16, true, .bool true), (17, true, .int .i64 ((i : Nat) : Int)), (18, true, .int .i64 ((j : Nat) : Int))] [(true, g13, 25, [.int .u8 ((o7 : Nat) : Int), .slice ad11 p8.length cp12]), (true, g16, 25, [.int .u8 ((o7 : Nat) : Int), .slice ad14 p8.length cp15])] ac _ := hs.re ⟨rfl, rfl, rfl, rfl, rfl, rfl, rfl, trivial⟩
        refine wp_region_lit ?_
        refine lstep (wpO_plain rfl (op_move hs none rfl rfl rfl rfl fun ac hs => ?_))
        refine lstep (wpO_plain rfl (op_bin hs none (v := .int .i64 ((j + 1 : Nat) : Int)) rfl rfl rfl rfl (fun _ => rfl) (bin_addN (x := j) (y := 1) (z := j + 1) rfl (show j + 1 < 9223372036854775808 by omega)) rfl fun ac hs => ?_))
        refine lstep (wpO_plain rfl (op_assign hs none rfl rfl rfl rfl fun ac hs => ?_))
        refine wpList_nil ?_
        refine then_n ?_
        exact ⟨_, ⟨(j + 1), rfl, (by omega), (hs.re (fs' := [(0, true, .slice a1 l.length c1), (4, true, .bool false), (5, true, .slice ad5 l.length cp6), (12, true, .slice ad19 ws17.length cp20), (16, true, .bool true), (17, true, .int .i64 ((i : Nat) : Int)), (18, true, .int .i64 (((j + 1) : Nat) : Int))]) ⟨rfl, rfl, rfl, rfl, rfl, rfl, rfl, trivial⟩)⟩, (by omega)⟩
      · skip
        have hp28 := of_decide_eq_false hc
        refine wp_exit ?_
        refine then_e ?_
        refine then_e ?_
        refine blk_e ?_
        refine blk_n ?_
        refine then_n ?_
        replace hs : St 107 ⟨w0, [], [(true, .cel (.slice a1 l.length c1) l.length (bcs l)), (true, .cel (.slice ad5 l.length cp6) l.length (bcs l)), (true, .cel (.slice ad11 p8.length cp12) p8.length (bcs p8)), (true, .cel (.slice ad14 p8.length cp15) p8.length (bcs p8)), (true, .own (.slice ad19 ws17.length cp20) 25 2 ws17.length (wcl ws17 vs21)), (true, .wrs G22 vs21 ((ws17.map Prod.snd).map List.length)), (true, .cel (.slice ad23 ws17.length cp24) ws17.length (wcl ws17 vs25)), (true, .bys vs25 (ws17.map Prod.snd))], Z, noX⟩ [(0, true, .slice a1 l.length c1), (4, true, .bool false), (5, true, .slice ad5 l.length cp6), (12, true, .slice ad19 ws17.length cp20), (16, true, .bool true), (17, true, .int .i64 ((i : Nat) : Int))] [(true, g13, 25, [.int .u8 ((o7 : Nat) : Int), .slice ad11 p8.length cp12]), (true, g16, 25, [.int .u8 ((o7 : Nat) : Int), .slice ad14 p8.length cp15])] ac _ := hs.re ⟨rfl, rfl, rfl, rfl, rfl, rfl, trivial⟩
        refine wp_region_lit ?_
        refine lstep (wpO_plain rfl (op_move hs none rfl rfl rfl rfl fun ac hs => ?_))
        refine lstep (wpO_plain rfl (op_bin hs none (v := .int .i64 ((i + 1 : Nat) : Int)) rfl rfl rfl rfl (fun _ => rfl) (bin_addN (x := i) (y := 1) (z := i + 1) rfl (show i + 1 < 9223372036854775808 by omega)) rfl fun ac hs => ?_))
        refine lstep (wpO_plain rfl (op_assign hs none rfl rfl rfl rfl fun ac hs => ?_))
        refine wpList_nil ?_
        refine then_n ?_
        exact ⟨_, ⟨(i + 1), rfl, (by omega), (hs.re (fs' := [(0, true, .slice a1 l.length c1), (4, true, .bool false), (5, true, .slice ad5 l.length cp6), (12, true, .slice ad19 ws17.length cp20), (16, true, .bool true), (17, true, .int .i64 (((i + 1) : Nat) : Int))]) ⟨rfl, rfl, rfl, rfl, rfl, rfl, trivial⟩)⟩, (by omega)⟩
    · skip
      have hp29 := of_decide_eq_false hc
      refine wp_exit ?_
      refine then_e ?_
      refine then_e ?_
      refine blk_e ?_
      refine then_n ?_
      refine wp_seq ?_
      refine wp_region_lit ?_
      refine lstep (wpO_plain rfl (op_callS (F := 9) (ρ := Unit) hs none none (v := fun r => .bool true) (E := fun r => []) (j := 0) rfl rfl rfl rfl (Try.call9 _) (fun hs => alive_c _ _) (fun _ => rfl) rfl rfl fun _ ac w hs => ?_))
      refine lstep (wpO_plain rfl (op_move hs none rfl rfl rfl rfl fun ac hs => ?_))
      refine lstep (wpO_in hs rfl rfl rfl (op_move hs none rfl rfl rfl rfl fun ac hs => ?_))
      refine lstep (wpO_plain rfl (op_pickT hs none rfl rfl rfl rfl rfl fun ac hs => ?_))
      refine lstep (wpO_plain rfl (op_move hs none rfl rfl rfl rfl fun ac hs => ?_))
      refine lstep (wpO_in hs rfl rfl rfl (op_move hs none rfl rfl rfl rfl fun ac hs => ?_))
      refine lstep (wpO_in hs rfl rfl rfl (op_convBS hs none 1 rfl rfl rfl rfl rfl Try.underlying22 Try.underlying5 Try.underlying9 rfl fun ac hs => ?_))
      refine lstep (wpO_in hs rfl rfl rfl (op_move hs none rfl rfl rfl rfl fun ac hs => ?_))
      refine lstep (wpO_in hs rfl rfl rfl (op_convBS hs none 0 rfl rfl rfl rfl rfl Try.underlying22 Try.underlying5 Try.underlying9 rfl fun ac hs => ?_))
      refine lstep (wpO_in hs rfl rfl rfl (op_bin hs none (v := .bool true) rfl rfl rfl rfl (fun _ => rfl) (bin_eqlT (decide_eq_true rfl)) rfl fun ac hs => ?_))
      refine lstep (wpO_plain rfl (op_pickT hs none rfl rfl rfl rfl rfl fun ac hs => ?_))
      refine lstep (wpO_plain rfl (op_assign hs none rfl rfl rfl rfl fun ac hs => ?_))
      refine wpList_nil ?_
      refine then_n ?_
      refine wp_ret ?_
      exact bodyPost_ret (res1 rfl (rv_t hs rfl)) hs.defers ⟨(), rfl, hs.bel rfl, okl0⟩
end Go.Proofs.Ytbjnlcblaonccaa
