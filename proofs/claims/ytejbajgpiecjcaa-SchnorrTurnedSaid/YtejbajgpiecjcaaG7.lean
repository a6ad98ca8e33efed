/- Several texts in one: SchB, SchL, Frame, FrameW, FrameE. -/
import Derived.Test.YtejbajgpiecjcaaG6
import Derived.Test.YtejbajgpiecjcaaRows
import Derived.WalkKit
import Derived.ProofKit
import Derived.OpenShut
import Derived.ChangeOld
import Derived.Below
import Derived.WideKeyArr2

/- The contracts of schnorr. -/
namespace Go.Proofs.Ytejbajgpiecjcaa
open Go.RowKit
set_option maxRecDepth 10000
set_option maxHeartbeats 1000000

theorem inf_slice_25 : Inf Try.prog 25 (.slice none 0 0) 1 24 := inf_of (by kernel_rfl)
theorem joined_c (ad : Option Addr) (n c : Nat) (vs : List Value) (ls : List (List UInt8)) (u : List UInt8) (hr : ls.flatten = u) (hn : n = ls.length) (hnl : ls.length ≤ 100) (hlen : u.length ≤ 100000) (w0 : World) (Z : Nat → Prop) (hV : CelV w0 Z (.slice ad n c) n vs) (hB : BysV w0 Z vs ls): Calls Try.prog 18 #[.slice ad n c] w0 fun e w' => Ret w0 Z (ρ := Option Addr × Nat) (fun r => .slice r.1 u.length r.2) (fun r => [.cel (.slice r.1 u.length r.2) u.length (bcs u)]) e w' := by
  subst hn
  refine enterS (n := 17) (args := [.slice ad ls.length c]) (S := [(true, .cel (.slice ad ls.length c) ls.length vs), (true, .bys vs ls)]) (Z := Z) Try.func18 rfl rfl (Nat.le_of_ble_eq_true rfl) (sokC hV (sokC hB sok0)) rfl fun ac hs => ?_
  refine wp_seq ?_
  refine wp_region_lit ?_
  refine lstep (wpO_plain rfl (op_assign hs none rfl rfl rfl rfl fun ac hs => ?_))
  refine wpList_nil ?_
  refine then_n ?_
  refine wp_seq ?_
  refine wp_region_lit ?_
  replace hs := hs.nilOwn none 5 1 rfl
  refine lstep (wpO_plain rfl (op_assign hs none (v := .slice none 0 0) rfl rfl rfl rfl fun ac hs => ?_))
  refine wpList_nil ?_
  refine then_n ?_
  refine wp_seq ?_
  refine wp_seq ?_
  refine wp_region_lit ?_
  refine lstep (wpO_plain rfl (op_move hs none rfl rfl rfl rfl fun ac hs => ?_))
  refine lstep (wpO_plain rfl (op_blt hs none (v := .int .i64 ((ls.length : Nat) : Int)) rfl rfl rfl (blt_len Try.underlying67) rfl fun ac hs => ?_))
  refine lstep (wpO_plain rfl (op_move hs none rfl rfl rfl rfl fun ac hs => ?_))
  refine wpList_nil ?_
  refine then_n ?_
  refine wp_block ?_
  refine wp_loop_m (fun μ ac w => ∃ (i : Nat) (ao : Option Addr) (co : Nat), (ls.length - i) = μ ∧ (i ≤ ls.length) ∧ St 17 ⟨w0, [], [(true, .cel (.slice ad ls.length c) ls.length vs), (true, .bys vs ls), (true, .own (.slice ao (((ls.take i).flatten).length) co) 5 1 (((ls.take i).flatten).length) (bcs ((ls.take i).flatten)))], Z, noX⟩ [(2, true, .slice none 0 0), (6, true, .slice ad ls.length c), (7, true, .int .i64 ((ls.length : Nat) : Int)), (3, true, .slice ao (((ls.take i).flatten).length) co), (8, true, .int .i64 ((i : Nat) : Int))] [] ac w) ?_ ?_
  · exact ⟨_, 0, none, 0, rfl, (by omega), (hs.re (fs' := [(2, true, .slice none 0 0), (6, true, .slice ad ls.length c), (7, true, .int .i64 ((ls.length : Nat) : Int)), (3, true, .slice none (((ls.take 0).flatten).length) 0), (8, true, .int .i64 ((0 : Nat) : Int))]) ⟨rfl, rfl, rfl, rfl, rfl, trivial⟩)⟩
  intro μ ac w ⟨i, ao, co, hμ, hi, hs⟩
  have hfl := flat_le ls i
  rw [hr] at hfl
  have hfl1 := flat_le ls (i + 1)
  rw [hr] at hfl1
  refine wp_seq ?_
  refine wp_region_lit ?_
  refine lstep (wpO_plain rfl (op_bin hs none (v := .bool (decide (i < ls.length))) rfl rfl rfl rfl (fun _ => rfl) (bin_lssN (x := i) (y := ls.length)) rfl fun ac hs => ?_))
  refine wpList_nil ?_
  refine then_n ?_
  refine wp_seq ?_
  refine wp_cond_split (hs.ev rfl) (fun hc => ?_) (fun hc => ?_)
  · skip
    have hp1 := of_decide_eq_true hc
    have hlt := of_decide_eq_true hc
    obtain ⟨li, hli⟩ : ∃ z, ls[i]? = some z := ⟨_, List.getElem?_eq_getElem hlt⟩
    obtain ⟨al, cl, hvl⟩ := bysv_at (hs.all (k := 1) rfl rfl) hli
    replace hs := hs.pick none 1 rfl hvl hli rfl
    have hlen1 : ((ls.take i).flatten).length + li.length ≤ 100000 := by rw [flat_take hli, List.length_append] at hfl1; omega
    refine wp_skip ?_
    refine then_n ?_
    refine wp_seq ?_
    refine wp_block ?_
    refine wp_seq ?_
    refine wp_region_lit ?_
    refine lstep (wpO_plain rfl (op_idxC hs none 0 (j := i) rfl rfl rfl rfl rfl Try.underlying67 Try.sizeOf25 (show i < ls.length by omega) (off := i) (by omega) rfl fun ac hs => ?_))
    refine lstep (wpO_plain rfl (op_loadC hs none 0 (u := .slice al li.length cl) rfl rfl rfl rfl Try.isAgg25 Try.sizeOf25 (by decide) hvl rfl fun ac hs => ?_))
    refine lstep (wpO_plain rfl (op_assign hs none rfl rfl rfl rfl fun ac hs => ?_))
    refine wpList_nil ?_
    refine then_n ?_
    refine wp_region_lit ?_
    refine lstep (wpO_plain rfl (op_move hs none rfl rfl rfl rfl fun ac hs => ?_))
    refine lstep (wpO_plain rfl (op_move hs none rfl rfl rfl rfl fun ac hs => ?_))
    refine lstep (wpO_plain rfl (op_appR hs none 2 3 (N' := ((ls.take i).flatten ++ li).length) (ys := bcs ((ls.take i).flatten ++ li)) rfl rfl rfl rfl rfl rfl Try.underlying25 inf_u8_5 rfl (by decide) (bcs_len1 rfl) (bcs_one _) (by decide) (show ((ls.take i).flatten).length + li.length ≤ 1000000 by first | omega | ((try simp only [List.length_drop, List.length_take, List.length_append, List.length_cons, List.length_nil]); omega)) (by simp only [List.length_append, List.length_cons, List.length_nil] <;> omega) (bcs_append _ _) rfl rfl fun ad2 cp3 ac w hs => ?_))
    refine lstep (wpO_plain rfl (op_assign hs none rfl rfl rfl rfl fun ac hs => ?_))
    refine wpList_nil ?_
    refine blk_n ?_
    refine then_n ?_
    replace hs : St 17 ⟨w0, [], [(true, .cel (.slice ad ls.length c) ls.length vs), (true, .bys vs ls), (true, .own (.slice ad2 (((ls.take i).flatten ++ li).length) cp3) 5 1 (((ls.take i).flatten ++ li).length) (bcs ((ls.take i).flatten ++ li))), (true, .cel (.slice al li.length cl) li.length (bcs li))], Z, noX⟩ [(2, true, .slice none 0 0), (6, true, .slice ad ls.length c), (7, true, .int .i64 ((ls.length : Nat) : Int)), (3, true, .slice ad2 (((ls.take i).flatten ++ li).length) cp3), (8, true, .int .i64 ((i : Nat) : Int))] [] ac _ := hs.re ⟨rfl, rfl, rfl, rfl, rfl, trivial⟩
    refine wp_region_lit ?_
    refine lstep (wpO_plain rfl (op_bin hs none (v := .int .i64 ((i + 1 : Nat) : Int)) rfl rfl rfl rfl (fun _ => rfl) (bin_addN (x := i) (y := 1) (z := i + 1) rfl (show i + 1 < 9223372036854775808 by omega)) rfl fun ac hs => ?_))
    refine lstep (wpO_plain rfl (op_move hs none rfl rfl rfl rfl fun ac hs => ?_))
    refine wpList_nil ?_
    refine then_n ?_
    rw [show (ls.take i).flatten ++ li = (ls.take (i + 1)).flatten from (flat_take hli).symm] at hs
    replace hs := hs.selS [0, 1, 2] rfl (by decide)
    exact ⟨_, ⟨(i + 1), ad2, cp3, rfl, (by omega), (hs.re (fs' := [(2, true, .slice none 0 0), (6, true, .slice ad ls.length c), (7, true, .int .i64 ((ls.length : Nat) : Int)), (3, true, .slice ad2 (((ls.take (i + 1)).flatten).length) cp3), (8, true, .int .i64 (((i + 1) : Nat) : Int))]) ⟨rfl, rfl, rfl, rfl, rfl, trivial⟩)⟩, (by omega)⟩
  · skip
    have hp4 := of_decide_eq_false hc
    have hge := of_decide_eq_false hc
    have hfe := flat_end hge
    refine wp_exit ?_
    refine then_e ?_
    refine then_e ?_
    refine blk_e ?_
    refine then_n ?_
    refine wp_seq ?_
    refine wp_region_lit ?_
    refine lstep (wpO_plain rfl (op_move hs none rfl rfl rfl rfl fun ac hs => ?_))
    refine lstep (wpO_plain rfl (op_assign hs none rfl rfl rfl rfl fun ac hs => ?_))
    refine wpList_nil ?_
    refine then_n ?_
    refine wp_ret ?_
    rw [show (ls.take i).flatten = u from (hfe.trans hr)] at hs
    replace hs := hs.freeze 2 rfl
    exact bodyPost_ret (res1 rfl (rv_t hs rfl)) hs.defers ⟨⟨ao, co⟩, rfl, hs.bel rfl, hs.ret1 2 rfl⟩
theorem chal_c (f1 f2 : Nat → Nat) (ad : Option Addr) (nl c : Nat) (l : List UInt8) (x : Nat) (hf1 : ∀ j, j < 32 → f1 j < 256) (hf2 : ∀ j, j < 32 → f2 j < 256) (hlen : l.length ≤ 1000) (hx : chal f1 f2 l = x) (w0 : World) (Z : Nat → Prop) (hl : ByV w0 Z (.slice ad nl c) l): Calls Try.prog 17 #[At .u8 32 f1, At .u8 32 f2, .slice ad nl c] w0 fun e w' => Ret w0 Z (ρ := Unit) (fun r => W x) (fun r => []) e w' := by
  obtain rfl := byv_len hl
  have hb1 := btl_len 32 f1
  have hb2 := btl_len 32 f2
  refine enterS (n := 14) (args := [At .u8 32 f1, At .u8 32 f2, .slice ad l.length c]) (S := [(true, .cel (.slice ad l.length c) l.length (bcs l))]) (Z := Z) Try.func17 rfl rfl (Nat.le_of_ble_eq_true rfl) (sokC hl sok0) rfl fun ac hs => ?_
  refine wp_seq ?_
  refine wp_region_lit ?_
  refine lstep (wpO_plain rfl (op_box hs none none (cs := (tab .u8 32 f1)) rfl rfl rfl rfl rfl rfl fun g1 ac w hs => ?_))
  refine lstep (wpO_plain rfl (op_box hs none none (cs := (tab .u8 32 f2)) rfl rfl rfl rfl rfl rfl fun g2 ac w hs => ?_))
  refine lstep (wpO_plain rfl (op_alloc hs none none (cs := [.int .u64 0, .int .u64 0, .int .u64 0, .int .u64 0]) rfl rfl Try.zeroValue24 (by kernel_rfl) rfl rfl fun g3 ac w hs => ?_))
  refine wpList_nil ?_
  refine then_n ?_
  refine wp_seq ?_
  replace hs := hs.arrCel none 0 (n0 := 32) (f := f1) rfl (fun j hj => hf1 j (by omega)) (by decide) rfl
  replace hs := hs.selB [1, 2] rfl (by decide)
  replace hs := hs.arrCel none 0 (n0 := 32) (f := f2) rfl (fun j hj => hf2 j (by omega)) (by decide) rfl
  replace hs := hs.selB [1] rfl (by decide)
  replace hs : St 14 ⟨w0, [], [(true, .cel (.slice ad l.length c) l.length (bcs l)), (true, .cel (.slice (some ⟨g1, 0, none⟩) 32 32) 32 (bcs (btl 32 f1))), (true, .cel (.slice (some ⟨g2, 0, none⟩) 32 32) 32 (bcs (btl 32 f2)))], Z, noX⟩ [(2, true, .slice ad l.length c), (3, true, .pointer (some ⟨g1, 0, none⟩)), (4, true, .pointer (some ⟨g2, 0, none⟩)), (6, true, .pointer (some ⟨g3, 0, none⟩))] [(true, g3, 24, [.int .u64 0, .int .u64 0, .int .u64 0, .int .u64 0])] ac _ := hs.re ⟨rfl, rfl, rfl, rfl, trivial⟩
  obtain ⟨r8, hr8, lr8⟩ : ∃ z0, pr (tagH chTag ((btl 32 f1) ++ (btl 32 f2) ++ l)) 0 32 % Nord = z0 ∧ z0 < 2 ^ 256 := ⟨_, rfl, mN256 _⟩
  refine region_inv [([], [3, 4, 5, 6, 7]), ([], [3, 4, 5, 6, 7]), ([], [3, 4, 5, 6, 7]), ([0, 1, 2], [4, 5, 6, 7]), ([0, 1, 2, 3], [5, 6, 7]), ([0, 1, 2, 3, 4], [6, 7]), ([0, 1, 2, 3, 4, 5], [7]), ([0, 1, 2, 3, 4, 5, 6], [])] (fun L ac w => ∃ (ad5 : Option Addr) (ad6 : Option Addr) (cp7 : Nat), St 14 ⟨w0, [], [(true, .cel (.slice ad l.length c) l.length (bcs l)), (true, .cel (.slice (some ⟨g1, 0, none⟩) 32 32) 32 (bcs (btl 32 f1))), (true, .cel (.slice (some ⟨g2, 0, none⟩) 32 32) 32 (bcs (btl 32 f2))), (L 3, .cel (.slice ad5 3 3) 3 ([.slice (some ⟨g1, 0, none⟩) 32 32, .slice (some ⟨g2, 0, none⟩) 32 32, .slice ad l.length c])), (L 4, .cel (.slice ad6 (((btl 32 f1) ++ (btl 32 f2) ++ l).length) cp7) (((btl 32 f1) ++ (btl 32 f2) ++ l).length) (bcs ((btl 32 f1) ++ (btl 32 f2) ++ l)))], Z, noX⟩ [(7, L 0, .slice (some ⟨g1, 0, none⟩) 32 32), (8, L 1, .slice (some ⟨g2, 0, none⟩) 32 32), (9, L 2, .slice ad l.length c), (10, L 3, .slice ad5 3 3), (11, L 4, .slice ad6 (((btl 32 f1) ++ (btl 32 f2) ++ l).length) cp7), (12, L 5, At .u8 32 (tagH chTag ((btl 32 f1) ++ (btl 32 f2) ++ l))), (13, L 6, W r8), (2, true, .slice ad l.length c), (3, true, .pointer (some ⟨g1, 0, none⟩)), (4, true, .pointer (some ⟨g2, 0, none⟩)), (6, true, .pointer (some ⟨g3, 0, none⟩))] [(true, g3, 24, (cond (L 7) (Wl r8) [.int .u64 0, .int .u64 0, .int .u64 0, .int .u64 0]))] ac w) (by kernel_rfl) (by kernel_rfl) ?_ ?_ ?_
  · exact ⟨none, none, 0, hs.drew.skip.skip.skip.skip.skip.skip.skip.padS.padS⟩
  · refine ⟨?_, ?_, ?_, ?_, ?_, ?_, ?_, ?_, trivial⟩
    · intro L ac w hJ
      obtain ⟨ad5, ad6, cp7, hs⟩ := hJ
      refine wpO_plain rfl (op_val hs (some 0) (v := .slice (some ⟨g1, 0, none⟩) 32 32) rfl rfl (run_slA rfl (hs.ev rfl) Try.underlying30 Try.sizeOf5) fun ac hs => ?_)
      exact ⟨ad5, ad6, cp7, hs⟩
    · intro L ac w hJ
      obtain ⟨ad5, ad6, cp7, hs⟩ := hJ
      refine wpO_plain rfl (op_val hs (some 1) (v := .slice (some ⟨g2, 0, none⟩) 32 32) rfl rfl (run_slA rfl (hs.ev rfl) Try.underlying30 Try.sizeOf5) fun ac hs => ?_)
      exact ⟨ad5, ad6, cp7, hs⟩
    · intro L ac w hJ
      obtain ⟨ad5, ad6, cp7, hs⟩ := hJ
      refine wpO_plain rfl (op_move hs (some 2) rfl rfl rfl rfl fun ac hs => ?_)
      exact ⟨ad5, ad6, cp7, hs⟩
    · intro L ac w hJ
      obtain ⟨ad5, ad6, cp7, hs⟩ := hJ
      refine wpO_plain rfl (op_bsC hs (some 3) (some 3) (qs := [(0, .slice (some ⟨g1, 0, none⟩) 32 32), (1, .slice (some ⟨g2, 0, none⟩) 32 32), (2, .slice ad l.length c)]) (cs := [.slice (some ⟨g1, 0, none⟩) 32 32, .slice (some ⟨g2, 0, none⟩) 32 32, .slice ad l.length c]) rfl rfl rfl rfl Try.underlying67 inf_slice_25 (by decide) (by decide) (fill_three _ _ _ _ rfl rfl rfl ) rfl rfl rfl rfl fun ad5 ac w hs => ?_)
      exact ⟨ad5, ad6, cp7, hs⟩
    · intro L ac w hJ
      obtain ⟨ad5, ad6, cp7, hs⟩ := hJ
      refine wpO_plain rfl (op_callS (F := 18) (ρ := Option Addr × Nat) hs (some 4) (some 4) (v := fun r => .slice r.1 (((btl 32 f1) ++ (btl 32 f2) ++ l).length) r.2) (E := fun r => [.cel (.slice r.1 (((btl 32 f1) ++ (btl 32 f2) ++ l).length) r.2) (((btl 32 f1) ++ (btl 32 f2) ++ l).length) (bcs ((btl 32 f1) ++ (btl 32 f2) ++ l))]) (j := 1) rfl rfl rfl rfl (Try.call18 _) (fun hs => joined_c ad5 3 3 [.slice (some ⟨g1, 0, none⟩) 32 32, .slice (some ⟨g2, 0, none⟩) 32 32, .slice ad l.length c] [btl 32 f1, btl 32 f2, l] ((btl 32 f1) ++ (btl 32 f2) ++ l) (by simp [List.append_assoc]) rfl (Nat.le_of_ble_eq_true rfl) (show ((btl 32 f1) ++ (btl 32 f2) ++ l).length ≤ 100000 by first | omega | ((try simp only [List.length_drop, List.length_take, List.length_append, List.length_cons, List.length_nil]); omega)) _ _ (hs.all (k := 3) rfl rfl) (bysC (hs.all (k := 1) rfl rfl) (bysC (hs.all (k := 2) rfl rfl) (bysC (hs.all (k := 0) rfl rfl) bys0)))) (fun _ => rfl) rfl rfl fun ⟨ad6, cp7⟩ ac w hs => ?_)
      exact ⟨ad5, ad6, cp7, hs⟩
    · intro L ac w hJ
      obtain ⟨ad5, ad6, cp7, hs⟩ := hJ
      refine wpO_plain rfl (op_callS (F := 33) (ρ := Unit) hs (some 5) none (v := fun r => At .u8 32 (tagH chTag ((btl 32 f1) ++ (btl 32 f2) ++ l))) (E := fun r => []) (j := 0) rfl rfl rfl rfl (Try.call33 _) (fun hs => tagged_c chTag ad6 (((btl 32 f1) ++ (btl 32 f2) ++ l).length) cp7 ((btl 32 f1) ++ (btl 32 f2) ++ l) (by decide) (show ((btl 32 f1) ++ (btl 32 f2) ++ l).length ≤ 100000 by first | omega | ((try simp only [List.length_drop, List.length_take, List.length_append, List.length_cons, List.length_nil]); omega)) _ _ (hs.all (k := 4) rfl rfl)) (fun _ => rfl) rfl rfl fun _ ac w hs => ?_)
      exact ⟨ad5, ad6, cp7, hs⟩
    · intro L ac w hJ
      obtain ⟨ad5, ad6, cp7, hs⟩ := hJ
      refine wpO_plain rfl (op_call (F := 32) hs (some 6) (v := W r8) rfl rfl rfl rfl (Try.call32 _) (shash_c (tagH chTag ((btl 32 f1) ++ (btl 32 f2) ++ l)) r8 (fun j _ => tagH_lt _ _ j) hr8) rfl fun ac w hs => ?_)
      exact ⟨ad5, ad6, cp7, hs⟩
    · intro L ac w hJ
      obtain ⟨ad5, ad6, cp7, hs⟩ := hJ
      refine wpO_plain rfl (op_store hs 0 (vs := (Wl r8)) rfl rfl rfl rfl rfl Try.sizeOf24 rfl rfl rfl rfl rfl fun w hs => ?_)
      exact ⟨ad5, ad6, cp7, hs⟩
  intro ac w hJ
  obtain ⟨ad5, ad6, cp7, hs⟩ := hJ
  replace hs : St 14 ⟨w0, [], [(true, .cel (.slice ad l.length c) l.length (bcs l)), (true, .cel (.slice (some ⟨g1, 0, none⟩) 32 32) 32 (bcs (btl 32 f1))), (true, .cel (.slice (some ⟨g2, 0, none⟩) 32 32) 32 (bcs (btl 32 f2))), (true, .cel (.slice ad5 3 3) 3 ([.slice (some ⟨g1, 0, none⟩) 32 32, .slice (some ⟨g2, 0, none⟩) 32 32, .slice ad l.length c])), (true, .cel (.slice ad6 (((btl 32 f1) ++ (btl 32 f2) ++ l).length) cp7) (((btl 32 f1) ++ (btl 32 f2) ++ l).length) (bcs ((btl 32 f1) ++ (btl 32 f2) ++ l)))], Z, noX⟩ [(7, true, .slice (some ⟨g1, 0, none⟩) 32 32), (8, true, .slice (some ⟨g2, 0, none⟩) 32 32), (9, true, .slice ad l.length c), (10, true, .slice ad5 3 3), (11, true, .slice ad6 (((btl 32 f1) ++ (btl 32 f2) ++ l).length) cp7), (12, true, At .u8 32 (tagH chTag ((btl 32 f1) ++ (btl 32 f2) ++ l))), (13, true, W r8), (2, true, .slice ad l.length c), (3, true, .pointer (some ⟨g1, 0, none⟩)), (4, true, .pointer (some ⟨g2, 0, none⟩)), (6, true, .pointer (some ⟨g3, 0, none⟩))] [(true, g3, 24, (Wl r8))] ac w := hs
  refine then_n ?_
  refine wp_ret ?_
  exact bodyPost_ret (res1 rfl (rv_c hs 0 (v := W r8) rfl rfl Try.isAgg24 Try.sizeOf24 rfl)) hs.defers ⟨(), by rw [show r8 = x from hr8.symm.trans (by rw [← hx]; rfl)], hs.bel rfl, okl0⟩
theorem straight_c (s d er : Nat) (hs0 : s < 2 ^ 256) (hd : sD s = d) (he : sE s = er) (w0 : World) : Calls Try.prog 13 #[W s] w0 fun e w' => e = .returned (.tuple #[W d, At .u8 32 (sK s), .int .i64 ((er : Nat) : Int)]) ∧ Below w0.heap.size w0 w' := by
  refine enter (n := 25) (args := [W s]) Try.func13 rfl rfl (Nat.le_of_ble_eq_true rfl) fun ac hs => ?_
  refine wp_seq ?_
  refine wp_region_lit ?_
  refine lstep (wpO_plain rfl (op_box hs none none (cs := (Wl s)) rfl rfl rfl rfl rfl rfl fun g1 ac w hs => ?_))
  refine lstep (wpO_plain rfl (op_alloc hs none none (cs := [.int .u64 0, .int .u64 0, .int .u64 0, .int .u64 0]) rfl rfl Try.zeroValue24 (by kernel_rfl) rfl rfl fun g2 ac w hs => ?_))
  refine lstep (wpO_plain rfl (op_alloc hs none none (cs := (tab .u8 32 (fun _ => 0))) rfl rfl Try.zeroValue30 (by kernel_rfl) rfl rfl fun g3 ac w hs => ?_))
  refine lstep (wpO_plain rfl (op_assign hs none rfl rfl rfl rfl fun ac hs => ?_))
  refine wpList_nil ?_
  refine then_n ?_
  refine wp_seq ?_
  refine wp_region_lit ?_
  refine lstep (wpO_plain rfl (op_load hs none 0 (v := W s) rfl rfl rfl rfl Try.isAgg24 Try.sizeOf24 rfl rfl fun ac hs => ?_))
  obtain ⟨r4, hr4, lr4⟩ : ∃ z0, s % Nord = z0 ∧ z0 < 2 ^ 256 := ⟨_, rfl, mN256 _⟩
  refine lstep (wpO_plain rfl (op_call (F := 27) hs none (v := W r4) rfl rfl rfl rfl (Try.call27 _) (red_c s r4 hs0 hr4) rfl fun ac w hs => ?_))
  refine lstep (wpO_plain rfl (op_alloc hs none none (cs := [.int .u64 0, .int .u64 0, .int .u64 0, .int .u64 0]) rfl rfl Try.zeroValue24 (by kernel_rfl) rfl rfl fun g5 ac w hs => ?_))
  refine lstep (wpO_plain rfl (op_store hs 3 (vs := (Wl r4)) rfl rfl rfl rfl rfl Try.sizeOf24 rfl rfl rfl rfl rfl fun w hs => ?_))
  refine wpList_nil ?_
  refine then_n ?_
  refine wp_seq ?_
  refine wp_seq ?_
  replace hs : St 25 w0 [(2, true, .pointer (some ⟨g2, 0, none⟩)), (3, true, .pointer (some ⟨g3, 0, none⟩)), (4, true, .int .i64 0), (5, true, .pointer (some ⟨g5, 0, none⟩))] [(true, g1, 24, (Wl s)), (true, g2, 24, [.int .u64 0, .int .u64 0, .int .u64 0, .int .u64 0]), (true, g3, 30, (tab .u8 32 (fun _ => 0))), (true, g5, 24, (Wl r4))] ac _ := hs.re ⟨rfl, rfl, rfl, rfl, trivial⟩
  refine wp_region_lit ?_
  refine lstep (wpO_plain rfl (op_load hs none 3 (v := W r4) rfl rfl rfl rfl Try.isAgg24 Try.sizeOf24 rfl rfl fun ac hs => ?_))
  refine lstep (wpO_plain rfl (op_build hs none (qs := []) (v := .agg #[.int .u64 0, .int .u64 0, .int .u64 0, .int .u64 0]) rfl rfl rfl rfl (fun _ => by kernel_rfl) rfl fun ac hs => ?_))
  refine lstep (wpO_plain rfl (op_bin hs none (v := .bool (decide (r4 = 0))) rfl rfl rfl rfl (fun w => run_eqGuard_agg w .eql 24 _ _ _ _ Try.eqGuardType24) (eqlW r4 0 lr4 (by decide) _ rfl) rfl fun ac hs => ?_))
  refine wpList_nil ?_
  refine then_n ?_
  refine wp_cond_split (hs.ev rfl) (fun hc => ?_) (fun hc => ?_)
  · skip
    have hp6 := of_decide_eq_true hc
    refine wp_seq ?_
    refine wp_region_lit ?_
    refine lstep (wpO_plain rfl (op_load hs none 3 (v := W r4) rfl rfl rfl rfl Try.isAgg24 Try.sizeOf24 rfl rfl fun ac hs => ?_))
    refine lstep (wpO_plain rfl (op_build hs none (qs := []) (v := At .u8 32 (fun _ => 0)) rfl rfl rfl rfl (fun _ => by kernel_rfl) rfl fun ac hs => ?_))
    refine lstep (wpO_plain rfl (op_store hs 1 (vs := (Wl r4)) rfl rfl rfl rfl rfl Try.sizeOf24 rfl rfl rfl rfl rfl fun w hs => ?_))
    refine lstep (wpO_plain rfl (op_store hs 2 (vs := (tab .u8 32 (fun _ => 0))) rfl rfl rfl rfl rfl Try.sizeOf30 (by kernel_rfl) tab_length' (tab_one _ _ _) tab_leA wr_tab fun w hs => ?_))
    refine lstep (wpO_plain rfl (op_assign hs none rfl rfl rfl rfl fun ac hs => ?_))
    refine wpList_nil ?_
    refine then_n ?_
    refine wp_ret ?_
    refine then_r ?_
    exact bodyPost_ret (res3 rfl (rv_c hs 1 (v := W r4) rfl rfl Try.isAgg24 Try.sizeOf24 rfl) (rv_c hs 2 (v := At .u8 32 (fun _ => 0)) rfl rfl Try.isAgg30 Try.sizeOf30 ldv_tab) (rv_t hs rfl)) hs.defers ⟨by obtain ⟨hd1, hk1, he1⟩ := st_zero hr4 hp6; rw [hd] at hd1; rw [he] at he1; rw [hd1, hk1, he1]; first | done | rfl, (hs.bel rfl)⟩
  · skip
    have hp7 := of_decide_eq_false hc
    refine wp_skip ?_
    refine then_n ?_
    refine wp_seq ?_
    replace hs : St 25 w0 [(2, true, .pointer (some ⟨g2, 0, none⟩)), (3, true, .pointer (some ⟨g3, 0, none⟩)), (4, true, .int .i64 0), (5, true, .pointer (some ⟨g5, 0, none⟩))] [(true, g1, 24, (Wl s)), (true, g2, 24, [.int .u64 0, .int .u64 0, .int .u64 0, .int .u64 0]), (true, g3, 30, (tab .u8 32 (fun _ => 0))), (true, g5, 24, (Wl r4))] ac _ := hs.re ⟨rfl, rfl, rfl, rfl, trivial⟩
    obtain ⟨T8, hT8, oT8⟩ := mkMul r4 Gp_on
    refine region_inv [([], [2, 4]), ([], [2, 4]), ([0, 1], [4]), ([], [4]), ([0, 1, 2, 3], [])] (fun L ac w => ∃ (g9 : Nat), St 25 w0 [(14, L 0, W r4), (15, L 1, PV (px Gp) (py Gp) (pz Gp)), (16, L 2, PV (px T8) (py T8) (pz T8)), (6, L 3, .pointer (some ⟨g9, 0, none⟩)), (2, true, .pointer (some ⟨g2, 0, none⟩)), (3, true, .pointer (some ⟨g3, 0, none⟩)), (4, true, .int .i64 0), (5, true, .pointer (some ⟨g5, 0, none⟩))] [(true, g1, 24, (Wl s)), (true, g2, 24, [.int .u64 0, .int .u64 0, .int .u64 0, .int .u64 0]), (true, g3, 30, (tab .u8 32 (fun _ => 0))), (true, g5, 24, (Wl r4)), (L 3, g9, 41, (cond (L 4) (PVl (px T8) (py T8) (pz T8)) (PVl 0 0 false)))] ac w) (by kernel_rfl) (by kernel_rfl) ?_ ?_ ?_
    · exact ⟨0, hs.drew.skip.skip.skip.skip.pad⟩
    · refine ⟨?_, ?_, ?_, ?_, ?_, trivial⟩
      · intro L ac w hJ
        obtain ⟨g9, hs⟩ := hJ
        refine wpO_plain rfl (op_load hs (some 0) 3 (v := W r4) rfl rfl rfl rfl Try.isAgg24 Try.sizeOf24 rfl rfl fun ac hs => ?_)
        exact ⟨g9, hs⟩
      · intro L ac w hJ
        obtain ⟨g9, hs⟩ := hJ
        refine wpO_plain rfl (op_call (F := 12) hs (some 1) (v := PV (px Gp) (py Gp) (pz Gp)) rfl rfl rfl rfl (Try.call12 _) base_c rfl fun ac w hs => ?_)
        exact ⟨g9, hs⟩
      · intro L ac w hJ
        obtain ⟨g9, hs⟩ := hJ
        refine wpO_plain rfl (op_call (F := 28) hs (some 2) (v := PV (px T8) (py T8) (pz T8)) rfl rfl rfl rfl (Try.call28 _) (mul14_c r4 (px Gp) (py Gp) (pz Gp) Gp T8 lr4 (px_lt Gp) (py_lt Gp) (pt_back Gp_on) hT8) rfl fun ac w hs => ?_)
        exact ⟨g9, hs⟩
      · intro L ac w hJ
        obtain ⟨g9, hs⟩ := hJ
        refine wpO_plain rfl (op_alloc hs (some 3) (some 4) (cs := (PVl 0 0 false)) rfl rfl Try.zeroValue41 (by kernel_rfl) rfl rfl fun g9 ac w hs => ?_)
        exact ⟨g9, hs⟩
      · intro L ac w hJ
        obtain ⟨g9, hs⟩ := hJ
        refine wpO_plain rfl (op_store hs 4 (vs := (PVl (px T8) (py T8) (pz T8))) rfl rfl rfl rfl rfl Try.sizeOf41 rfl rfl rfl rfl rfl fun w hs => ?_)
        exact ⟨g9, hs⟩
    intro ac w hJ
    obtain ⟨g9, hs⟩ := hJ
    replace hs : St 25 w0 [(14, true, W r4), (15, true, PV (px Gp) (py Gp) (pz Gp)), (16, true, PV (px T8) (py T8) (pz T8)), (6, true, .pointer (some ⟨g9, 0, none⟩)), (2, true, .pointer (some ⟨g2, 0, none⟩)), (3, true, .pointer (some ⟨g3, 0, none⟩)), (4, true, .int .i64 0), (5, true, .pointer (some ⟨g5, 0, none⟩))] [(true, g1, 24, (Wl s)), (true, g2, 24, [.int .u64 0, .int .u64 0, .int .u64 0, .int .u64 0]), (true, g3, 30, (tab .u8 32 (fun _ => 0))), (true, g5, 24, (Wl r4)), (true, g9, 41, (PVl (px T8) (py T8) (pz T8)))] ac w := hs
    refine then_n ?_
    refine wp_seq ?_
    refine wp_seq ?_
    refine wp_region_lit ?_
    refine lstep (wpO_plain rfl (op_load hs none 4 (v := PV (px T8) (py T8) (pz T8)) rfl rfl rfl rfl Try.isAgg41 Try.sizeOf41 rfl rfl fun ac hs => ?_))
    refine lstep (wpO_plain rfl (op_call (F := 23) hs none (v := .bool (evB T8)) rfl rfl rfl rfl (Try.call23 _) (even_c (px T8) (py T8) (pz T8) T8 _ (px_lt T8) (py_lt T8) (pt_back oT8) rfl) rfl fun ac w hs => ?_))
    refine lstep (wpO_plain rfl (op_un hs none (v := .bool (!(evB T8))) rfl rfl rfl (fun _ => rfl) rfl fun ac hs => ?_))
    refine wpList_nil ?_
    refine then_n ?_
    refine wp_cond_split (hs.ev rfl) (fun hc => ?_) (fun hc => ?_)
    · skip
      have hev := hc
      refine wp_region_lit ?_
      refine lstep (wpO_plain rfl (op_load hs none 3 (v := W r4) rfl rfl rfl rfl Try.isAgg24 Try.sizeOf24 rfl rfl fun ac hs => ?_))
      obtain ⟨r10, hr10, lr10⟩ : ∃ z0, (Nord - r4 % Nord) % Nord = z0 ∧ z0 < 2 ^ 256 := ⟨_, rfl, mN256 _⟩
      refine lstep (wpO_plain rfl (op_call (F := 21) hs none (v := W r10) rfl rfl rfl rfl (Try.call21 _) (sneg_c r4 r10 lr4 hr10) rfl fun ac w hs => ?_))
      refine lstep (wpO_plain rfl (op_store hs 3 (vs := (Wl r10)) rfl rfl rfl rfl rfl Try.sizeOf24 rfl rfl rfl rfl rfl fun w hs => ?_))
      refine wpList_nil ?_
      refine then_n ?_
      refine wp_seq ?_
      replace hs : St 25 w0 [(2, true, .pointer (some ⟨g2, 0, none⟩)), (3, true, .pointer (some ⟨g3, 0, none⟩)), (4, true, .int .i64 0), (5, true, .pointer (some ⟨g5, 0, none⟩)), (6, true, .pointer (some ⟨g9, 0, none⟩))] [(true, g1, 24, (Wl s)), (true, g2, 24, [.int .u64 0, .int .u64 0, .int .u64 0, .int .u64 0]), (true, g3, 30, (tab .u8 32 (fun _ => 0))), (true, g5, 24, (Wl r10)), (true, g9, 41, (PVl (px T8) (py T8) (pz T8)))] ac _ := hs.re ⟨rfl, rfl, rfl, rfl, rfl, trivial⟩
      refine region_inv [([], [3, 4, 5]), ([], [2, 3, 4, 5]), ([1], [3, 4, 5]), ([0, 1, 2], [4, 5]), ([0, 1, 2, 3], [5]), ([0, 1, 2, 3, 4], [])] (fun L ac w => St 25 w0 [(22, L 0, W r10), (23, L 1, PV (px T8) (py T8) (pz T8)), (24, L 2, At .u8 32 (by8 (px T8))), (4, L 5, .int .i64 0), (2, true, .pointer (some ⟨g2, 0, none⟩)), (3, true, .pointer (some ⟨g3, 0, none⟩)), (4, true, .int .i64 0), (5, true, .pointer (some ⟨g5, 0, none⟩)), (6, true, .pointer (some ⟨g9, 0, none⟩))] [(true, g1, 24, (Wl s)), (true, g2, 24, (cond (L 3) (Wl r10) [.int .u64 0, .int .u64 0, .int .u64 0, .int .u64 0])), (true, g3, 30, (cond (L 4) (tab .u8 32 (by8 (px T8))) (tab .u8 32 (fun _ => 0)))), (true, g5, 24, (Wl r10)), (true, g9, 41, (PVl (px T8) (py T8) (pz T8)))] ac w) (by kernel_rfl) (by kernel_rfl) ?_ ?_ ?_
      · exact hs.drew.skip.skip.skip.skip
      · refine ⟨?_, ?_, ?_, ?_, ?_, ?_, trivial⟩
        · intro L ac w hJ
          have hs := hJ
          refine wpO_plain rfl (op_load hs (some 0) 3 (v := W r10) rfl rfl rfl rfl Try.isAgg24 Try.sizeOf24 rfl rfl fun ac hs => ?_)
          exact hs
        · intro L ac w hJ
          have hs := hJ
          refine wpO_plain rfl (op_load hs (some 1) 4 (v := PV (px T8) (py T8) (pz T8)) rfl rfl rfl rfl Try.isAgg41 Try.sizeOf41 rfl rfl fun ac hs => ?_)
          exact hs
        · intro L ac w hJ
          have hs := hJ
          refine wpO_plain rfl (op_call (F := 11) hs (some 2) (v := At .u8 32 (by8 (px T8))) rfl rfl rfl rfl (Try.call11 _) (pbytes_c (px T8) (py T8) (pz T8) T8 (px_lt T8) (py_lt T8) (pt_back oT8)) rfl fun ac w hs => ?_)
          exact hs
        · intro L ac w hJ
          have hs := hJ
          refine wpO_plain rfl (op_store hs 1 (vs := (Wl r10)) rfl rfl rfl rfl rfl Try.sizeOf24 rfl rfl rfl rfl rfl fun w hs => ?_)
          exact hs
        · intro L ac w hJ
          have hs := hJ
          refine wpO_plain rfl (op_store hs 2 (vs := (tab .u8 32 (by8 (px T8)))) rfl rfl rfl rfl rfl Try.sizeOf30 (by kernel_rfl) tab_length' (tab_one _ _ _) tab_leA wr_tab fun w hs => ?_)
          exact hs
        · intro L ac w hJ
          have hs := hJ
          refine wpO_plain rfl (op_assign hs (some 3) rfl rfl rfl rfl fun ac hs => ?_)
          exact hs
      intro ac w hJ
      replace hs : St 25 w0 [(22, true, W r10), (23, true, PV (px T8) (py T8) (pz T8)), (24, true, At .u8 32 (by8 (px T8))), (4, true, .int .i64 0), (2, true, .pointer (some ⟨g2, 0, none⟩)), (3, true, .pointer (some ⟨g3, 0, none⟩)), (4, true, .int .i64 0), (5, true, .pointer (some ⟨g5, 0, none⟩)), (6, true, .pointer (some ⟨g9, 0, none⟩))] [(true, g1, 24, (Wl s)), (true, g2, 24, (Wl r10)), (true, g3, 30, (tab .u8 32 (by8 (px T8)))), (true, g5, 24, (Wl r10)), (true, g9, 41, (PVl (px T8) (py T8) (pz T8)))] ac w := hJ
      refine then_n ?_
      refine wp_ret ?_
      exact bodyPost_ret (res3 rfl (rv_c hs 1 (v := W r10) rfl rfl Try.isAgg24 Try.sizeOf24 rfl) (rv_c hs 2 (v := At .u8 32 (by8 (px T8))) rfl rfl Try.isAgg30 Try.sizeOf30 ldv_tab) (rv_t hs rfl)) hs.defers ⟨by obtain ⟨hd1, hk1, he1⟩ := st_odd hr4 hp7 hT8 (by simpa using hev) hr10; rw [hd] at hd1; rw [he] at he1; rw [hd1, hk1, he1]; first | done | rfl, (hs.bel rfl)⟩
    · skip
      have hev := hc
      refine wp_skip ?_
      refine then_n ?_
      refine wp_seq ?_
      replace hs : St 25 w0 [(2, true, .pointer (some ⟨g2, 0, none⟩)), (3, true, .pointer (some ⟨g3, 0, none⟩)), (4, true, .int .i64 0), (5, true, .pointer (some ⟨g5, 0, none⟩)), (6, true, .pointer (some ⟨g9, 0, none⟩))] [(true, g1, 24, (Wl s)), (true, g2, 24, [.int .u64 0, .int .u64 0, .int .u64 0, .int .u64 0]), (true, g3, 30, (tab .u8 32 (fun _ => 0))), (true, g5, 24, (Wl r4)), (true, g9, 41, (PVl (px T8) (py T8) (pz T8)))] ac _ := hs.re ⟨rfl, rfl, rfl, rfl, rfl, trivial⟩
      refine region_inv [([], [3, 4, 5]), ([], [2, 3, 4, 5]), ([1], [3, 4, 5]), ([0, 1, 2], [4, 5]), ([0, 1, 2, 3], [5]), ([0, 1, 2, 3, 4], [])] (fun L ac w => St 25 w0 [(22, L 0, W r4), (23, L 1, PV (px T8) (py T8) (pz T8)), (24, L 2, At .u8 32 (by8 (px T8))), (4, L 5, .int .i64 0), (2, true, .pointer (some ⟨g2, 0, none⟩)), (3, true, .pointer (some ⟨g3, 0, none⟩)), (4, true, .int .i64 0), (5, true, .pointer (some ⟨g5, 0, none⟩)), (6, true, .pointer (some ⟨g9, 0, none⟩))] [(true, g1, 24, (Wl s)), (true, g2, 24, (cond (L 3) (Wl r4) [.int .u64 0, .int .u64 0, .int .u64 0, .int .u64 0])), (true, g3, 30, (cond (L 4) (tab .u8 32 (by8 (px T8))) (tab .u8 32 (fun _ => 0)))), (true, g5, 24, (Wl r4)), (true, g9, 41, (PVl (px T8) (py T8) (pz T8)))] ac w) (by kernel_rfl) (by kernel_rfl) ?_ ?_ ?_
      · exact hs.drew.skip.skip.skip.skip
      · refine ⟨?_, ?_, ?_, ?_, ?_, ?_, trivial⟩
        · intro L ac w hJ
          have hs := hJ
          refine wpO_plain rfl (op_load hs (some 0) 3 (v := W r4) rfl rfl rfl rfl Try.isAgg24 Try.sizeOf24 rfl rfl fun ac hs => ?_)
          exact hs
        · intro L ac w hJ
          have hs := hJ
          refine wpO_plain rfl (op_load hs (some 1) 4 (v := PV (px T8) (py T8) (pz T8)) rfl rfl rfl rfl Try.isAgg41 Try.sizeOf41 rfl rfl fun ac hs => ?_)
          exact hs
        · intro L ac w hJ
          have hs := hJ
          refine wpO_plain rfl (op_call (F := 11) hs (some 2) (v := At .u8 32 (by8 (px T8))) rfl rfl rfl rfl (Try.call11 _) (pbytes_c (px T8) (py T8) (pz T8) T8 (px_lt T8) (py_lt T8) (pt_back oT8)) rfl fun ac w hs => ?_)
          exact hs
        · intro L ac w hJ
          have hs := hJ
          refine wpO_plain rfl (op_store hs 1 (vs := (Wl r4)) rfl rfl rfl rfl rfl Try.sizeOf24 rfl rfl rfl rfl rfl fun w hs => ?_)
          exact hs
        · intro L ac w hJ
          have hs := hJ
          refine wpO_plain rfl (op_store hs 2 (vs := (tab .u8 32 (by8 (px T8)))) rfl rfl rfl rfl rfl Try.sizeOf30 (by kernel_rfl) tab_length' (tab_one _ _ _) tab_leA wr_tab fun w hs => ?_)
          exact hs
        · intro L ac w hJ
          have hs := hJ
          refine wpO_plain rfl (op_assign hs (some 3) rfl rfl rfl rfl fun ac hs => ?_)
          exact hs
      intro ac w hJ
      replace hs : St 25 w0 [(22, true, W r4), (23, true, PV (px T8) (py T8) (pz T8)), (24, true, At .u8 32 (by8 (px T8))), (4, true, .int .i64 0), (2, true, .pointer (some ⟨g2, 0, none⟩)), (3, true, .pointer (some ⟨g3, 0, none⟩)), (4, true, .int .i64 0), (5, true, .pointer (some ⟨g5, 0, none⟩)), (6, true, .pointer (some ⟨g9, 0, none⟩))] [(true, g1, 24, (Wl s)), (true, g2, 24, (Wl r4)), (true, g3, 30, (tab .u8 32 (by8 (px T8)))), (true, g5, 24, (Wl r4)), (true, g9, 41, (PVl (px T8) (py T8) (pz T8)))] ac w := hJ
      refine then_n ?_
      refine wp_ret ?_
      exact bodyPost_ret (res3 rfl (rv_c hs 1 (v := W r4) rfl rfl Try.isAgg24 Try.sizeOf24 rfl) (rv_c hs 2 (v := At .u8 32 (by8 (px T8))) rfl rfl Try.isAgg30 Try.sizeOf30 ldv_tab) (rv_t hs rfl)) hs.defers ⟨by obtain ⟨hd1, hk1, he1⟩ := st_even hr4 hp7 hT8 (by simpa using hev); rw [hd] at hd1; rw [he] at he1; rw [hd1, hk1, he1]; first | done | rfl, (hs.bel rfl)⟩
theorem key_c (s er : Nat) (hs0 : s < 2 ^ 256) (he : sE s = er) (w0 : World) : Calls Try.prog 7 #[W s] w0 fun e w' => e = .returned (.tuple #[At .u8 32 (sK s), .int .i64 ((er : Nat) : Int)]) ∧ Below w0.heap.size w0 w' := by
  refine enter (n := 15) (args := [W s]) Try.func7 rfl rfl (Nat.le_of_ble_eq_true rfl) fun ac hs => ?_
  refine wp_seq ?_
  refine wp_region_lit ?_
  refine lstep (wpO_plain rfl (op_box hs none none (cs := (Wl s)) rfl rfl rfl rfl rfl rfl fun g1 ac w hs => ?_))
  refine lstep (wpO_plain rfl (op_alloc hs none none (cs := (tab .u8 32 (fun _ => 0))) rfl rfl Try.zeroValue30 (by kernel_rfl) rfl rfl fun g2 ac w hs => ?_))
  refine lstep (wpO_plain rfl (op_assign hs none rfl rfl rfl rfl fun ac hs => ?_))
  refine wpList_nil ?_
  refine then_n ?_
  refine wp_seq ?_
  refine wp_region_lit ?_
  refine lstep (wpO_plain rfl (op_load hs none 0 (v := W s) rfl rfl rfl rfl Try.isAgg24 Try.sizeOf24 rfl rfl fun ac hs => ?_))
  obtain ⟨d3, hd3, ld3⟩ : ∃ z0, sD s = z0 ∧ z0 < 2 ^ 256 := ⟨_, rfl, sD_lt256 _⟩
  obtain ⟨er4, her4⟩ : ∃ z0, sE s = z0 := ⟨_, rfl⟩
  have ler4 := sE_le s
  rw [her4] at ler4
  refine lstep (wpO_plain rfl (op_call (F := 13) hs none (v := .tuple #[W d3, At .u8 32 (sK s), .int .i64 ((er4 : Nat) : Int)]) rfl rfl rfl rfl (Try.call13 _) (straight_c s d3 er4 hs0 hd3 her4) rfl fun ac w hs => ?_))
  refine lstep (wpO_plain rfl (op_move hs none rfl rfl rfl rfl fun ac hs => ?_))
  refine lstep (wpO_plain rfl (op_extract hs none rfl rfl rfl rfl rfl fun ac hs => ?_))
  refine lstep (wpO_plain rfl (op_extract hs none rfl rfl rfl rfl rfl fun ac hs => ?_))
  refine lstep (wpO_plain rfl (op_extract hs none rfl rfl rfl rfl rfl fun ac hs => ?_))
  refine lstep (wpO_plain rfl (op_alloc hs none none (cs := [.int .u64 0, .int .u64 0, .int .u64 0, .int .u64 0]) rfl rfl Try.zeroValue24 (by kernel_rfl) rfl rfl fun g5 ac w hs => ?_))
  refine lstep (wpO_plain rfl (op_alloc hs none none (cs := (tab .u8 32 (fun _ => 0))) rfl rfl Try.zeroValue30 (by kernel_rfl) rfl rfl fun g6 ac w hs => ?_))
  refine lstep (wpO_plain rfl (op_store hs 2 (vs := (Wl d3)) rfl rfl rfl rfl rfl Try.sizeOf24 rfl rfl rfl rfl rfl fun w hs => ?_))
  refine lstep (wpO_plain rfl (op_store hs 3 (vs := (tab .u8 32 (sK s))) rfl rfl rfl rfl rfl Try.sizeOf30 (by kernel_rfl) tab_length' (tab_one _ _ _) tab_leA wr_tab fun w hs => ?_))
  refine lstep (wpO_plain rfl (op_assign hs none rfl rfl rfl rfl fun ac hs => ?_))
  refine wpList_nil ?_
  refine then_n ?_
  refine wp_seq ?_
  replace hs : St 15 w0 [(2, true, .pointer (some ⟨g2, 0, none⟩)), (3, true, .int .i64 0), (5, true, .pointer (some ⟨g6, 0, none⟩)), (6, true, .int .i64 ((er4 : Nat) : Int))] [(true, g1, 24, (Wl s)), (true, g2, 30, (tab .u8 32 (fun _ => 0))), (true, g5, 24, (Wl d3)), (true, g6, 30, (tab .u8 32 (sK s)))] ac _ := hs.re ⟨rfl, rfl, rfl, rfl, trivial⟩
  refine wp_region_lit ?_
  refine lstep (wpO_plain rfl (op_load hs none 3 (v := At .u8 32 (sK s)) rfl rfl rfl rfl Try.isAgg30 Try.sizeOf30 ldv_tab rfl fun ac hs => ?_))
  refine lstep (wpO_plain rfl (op_move hs none rfl rfl rfl rfl fun ac hs => ?_))
  refine lstep (wpO_plain rfl (op_store hs 1 (vs := (tab .u8 32 (sK s))) rfl rfl rfl rfl rfl Try.sizeOf30 (by kernel_rfl) tab_length' (tab_one _ _ _) tab_leA wr_tab fun w hs => ?_))
  refine lstep (wpO_plain rfl (op_assign hs none rfl rfl rfl rfl fun ac hs => ?_))
  refine wpList_nil ?_
  refine then_n ?_
  refine wp_ret ?_
  exact bodyPost_ret (res2 rfl (rv_c hs 1 (v := At .u8 32 (sK s)) rfl rfl Try.isAgg30 Try.sizeOf30 ldv_tab) (rv_t hs rfl)) hs.defers ⟨by rw [show er4 = er from her4.symm.trans he], (hs.bel rfl)⟩
theorem sign_c (s k : Nat) (ad : Option Addr) (nl c : Nat) (l : List UInt8) (b : List UInt8) (er : Nat) (hs0 : s < 2 ^ 256) (hk0 : k < 2 ^ 256) (hlen : l.length ≤ 1000) (hb : sgB s k l = b) (he : sgE s k = er) (w0 : World) (Z : Nat → Prop) (hl : ByV w0 Z (.slice ad nl c) l): Calls Try.prog 6 #[W s, W k, .slice ad nl c] w0 fun e w' => Ret w0 Z (ρ := Option Addr × Nat) (fun r => .tuple #[.slice r.1 b.length r.2, .int .i64 ((er : Nat) : Int)]) (fun r => [.cel (.slice r.1 b.length r.2) b.length (bcs b)]) e w' := by
  obtain rfl := byv_len hl
  have hbk := btl_len 32 (sK k)
  have hb8 := fun x => btl_len 32 (by8 x)
  refine enterS (n := 45) (args := [W s, W k, .slice ad l.length c]) (S := [(true, .cel (.slice ad l.length c) l.length (bcs l))]) (Z := Z) Try.func6 rfl rfl (Nat.le_of_ble_eq_true rfl) (sokC hl sok0) rfl fun ac hs => ?_
  refine wp_seq ?_
  refine wp_region_lit ?_
  refine lstep (wpO_plain rfl (op_box hs none none (cs := (Wl s)) rfl rfl rfl rfl rfl rfl fun g1 ac w hs => ?_))
  refine lstep (wpO_plain rfl (op_box hs none none (cs := (Wl k)) rfl rfl rfl rfl rfl rfl fun g2 ac w hs => ?_))
  refine lstep (wpO_plain rfl (op_assign hs none rfl rfl rfl rfl fun ac hs => ?_))
  refine lstep (wpO_plain rfl (op_assign hs none rfl rfl rfl rfl fun ac hs => ?_))
  refine wpList_nil ?_
  refine then_n ?_
  refine wp_seq ?_
  refine wp_region_lit ?_
  refine lstep (wpO_plain rfl (op_load hs none 0 (v := W s) rfl rfl rfl rfl Try.isAgg24 Try.sizeOf24 rfl rfl fun ac hs => ?_))
  obtain ⟨d3, hd3, ld3⟩ : ∃ z0, sD s = z0 ∧ z0 < 2 ^ 256 := ⟨_, rfl, sD_lt256 _⟩
  obtain ⟨er4, her4⟩ : ∃ z0, sE s = z0 := ⟨_, rfl⟩
  have ler4 := sE_le s
  rw [her4] at ler4
  refine lstep (wpO_plain rfl (op_call (F := 13) hs none (v := .tuple #[W d3, At .u8 32 (sK s), .int .i64 ((er4 : Nat) : Int)]) rfl rfl rfl rfl (Try.call13 _) (straight_c s d3 er4 hs0 hd3 her4) rfl fun ac w hs => ?_))
  refine lstep (wpO_plain rfl (op_move hs none rfl rfl rfl rfl fun ac hs => ?_))
  refine lstep (wpO_plain rfl (op_extract hs none rfl rfl rfl rfl rfl fun ac hs => ?_))
  refine lstep (wpO_plain rfl (op_extract hs none rfl rfl rfl rfl rfl fun ac hs => ?_))
  refine lstep (wpO_plain rfl (op_extract hs none rfl rfl rfl rfl rfl fun ac hs => ?_))
  refine lstep (wpO_plain rfl (op_alloc hs none none (cs := [.int .u64 0, .int .u64 0, .int .u64 0, .int .u64 0]) rfl rfl Try.zeroValue24 (by kernel_rfl) rfl rfl fun g5 ac w hs => ?_))
  refine lstep (wpO_plain rfl (op_alloc hs none none (cs := (tab .u8 32 (fun _ => 0))) rfl rfl Try.zeroValue30 (by kernel_rfl) rfl rfl fun g6 ac w hs => ?_))
  refine lstep (wpO_plain rfl (op_store hs 2 (vs := (Wl d3)) rfl rfl rfl rfl rfl Try.sizeOf24 rfl rfl rfl rfl rfl fun w hs => ?_))
  refine lstep (wpO_plain rfl (op_store hs 3 (vs := (tab .u8 32 (sK s))) rfl rfl rfl rfl rfl Try.sizeOf30 (by kernel_rfl) tab_length' (tab_one _ _ _) tab_leA wr_tab fun w hs => ?_))
  refine lstep (wpO_plain rfl (op_assign hs none rfl rfl rfl rfl fun ac hs => ?_))
  refine wpList_nil ?_
  refine then_n ?_
  refine wp_seq ?_
  refine wp_seq ?_
  replace hs : St 45 ⟨w0, [], [(true, .cel (.slice ad l.length c) l.length (bcs l))], Z, noX⟩ [(2, true, .slice ad l.length c), (4, true, .pointer (some ⟨g2, 0, none⟩)), (6, true, .slice none 0 0), (7, true, .int .i64 0), (8, true, .pointer (some ⟨g5, 0, none⟩)), (9, true, .pointer (some ⟨g6, 0, none⟩)), (10, true, .int .i64 ((er4 : Nat) : Int))] [(true, g1, 24, (Wl s)), (true, g2, 24, (Wl k)), (true, g5, 24, (Wl d3)), (true, g6, 30, (tab .u8 32 (sK s)))] ac _ := hs.re ⟨rfl, rfl, rfl, rfl, rfl, rfl, rfl, trivial⟩
  refine wp_region_lit ?_
  refine lstep (wpO_plain rfl (op_move hs none rfl rfl rfl rfl fun ac hs => ?_))
  refine lstep (wpO_plain rfl (op_bin hs none (v := .bool (decide (er4 ≠ 0))) rfl rfl rfl rfl (fun _ => rfl) (bin_neqN (x := er4) (y := 0)) rfl fun ac hs => ?_))
  refine wpList_nil ?_
  refine then_n ?_
  refine wp_cond_split (hs.ev rfl) (fun hc => ?_) (fun hc => ?_)
  · skip
    have hp7 := of_decide_eq_true hc
    have hn0 : sE s ≠ 0 := by rw [her4]; simpa using hc
    refine wp_seq ?_
    refine wp_region_lit ?_
    refine lstep (wpO_plain rfl (op_move hs none rfl rfl rfl rfl fun ac hs => ?_))
    refine lstep (wpO_plain rfl (op_assign hs none rfl rfl rfl rfl fun ac hs => ?_))
    refine lstep (wpO_plain rfl (op_assign hs none rfl rfl rfl rfl fun ac hs => ?_))
    refine wpList_nil ?_
    refine then_n ?_
    refine wp_ret ?_
    refine then_r ?_
    exact bodyPost_ret (res2 rfl (rv_t hs rfl) (rv_t hs rfl)) hs.defers ⟨⟨none, 0⟩, by obtain ⟨h1, h2⟩ := sgB_no l (fun h => hn0 h.1); rw [← hb, ← he, h1, h2]; rw [show er4 = 1 from (her4.symm.trans (sE_1 hn0).2)]; first | done | rfl, hs.bel rfl, by obtain ⟨h1, _⟩ := sgB_no l (fun h => hn0 h.1); rw [← hb, h1]; exact okl1 celv_nil⟩
  · skip
    have hp8 := of_decide_eq_false hc
    have hz0 : sE s = 0 := by rw [her4]; simpa using hc
    refine wp_skip ?_
    refine then_n ?_
    refine wp_seq ?_
    refine wp_region_lit ?_
    refine lstep (wpO_plain rfl (op_load hs none 1 (v := W k) rfl rfl rfl rfl Try.isAgg24 Try.sizeOf24 rfl rfl fun ac hs => ?_))
    obtain ⟨d9, hd9, ld9⟩ : ∃ z0, sD k = z0 ∧ z0 < 2 ^ 256 := ⟨_, rfl, sD_lt256 _⟩
    obtain ⟨er10, her10⟩ : ∃ z0, sE k = z0 := ⟨_, rfl⟩
    have ler10 := sE_le k
    rw [her10] at ler10
    refine lstep (wpO_plain rfl (op_call (F := 13) hs none (v := .tuple #[W d9, At .u8 32 (sK k), .int .i64 ((er10 : Nat) : Int)]) rfl rfl rfl rfl (Try.call13 _) (straight_c k d9 er10 hk0 hd9 her10) rfl fun ac w hs => ?_))
    refine lstep (wpO_plain rfl (op_move hs none rfl rfl rfl rfl fun ac hs => ?_))
    refine lstep (wpO_plain rfl (op_extract hs none rfl rfl rfl rfl rfl fun ac hs => ?_))
    refine lstep (wpO_plain rfl (op_extract hs none rfl rfl rfl rfl rfl fun ac hs => ?_))
    refine lstep (wpO_plain rfl (op_extract hs none rfl rfl rfl rfl rfl fun ac hs => ?_))
    refine lstep (wpO_plain rfl (op_alloc hs none none (cs := [.int .u64 0, .int .u64 0, .int .u64 0, .int .u64 0]) rfl rfl Try.zeroValue24 (by kernel_rfl) rfl rfl fun g11 ac w hs => ?_))
    refine lstep (wpO_plain rfl (op_alloc hs none none (cs := (tab .u8 32 (fun _ => 0))) rfl rfl Try.zeroValue30 (by kernel_rfl) rfl rfl fun g12 ac w hs => ?_))
    refine lstep (wpO_plain rfl (op_store hs 4 (vs := (Wl d9)) rfl rfl rfl rfl rfl Try.sizeOf24 rfl rfl rfl rfl rfl fun w hs => ?_))
    refine lstep (wpO_plain rfl (op_store hs 5 (vs := (tab .u8 32 (sK k))) rfl rfl rfl rfl rfl Try.sizeOf30 (by kernel_rfl) tab_length' (tab_one _ _ _) tab_leA wr_tab fun w hs => ?_))
    refine lstep (wpO_plain rfl (op_assign hs none rfl rfl rfl rfl fun ac hs => ?_))
    refine wpList_nil ?_
    refine then_n ?_
    refine wp_seq ?_
    refine wp_seq ?_
    replace hs : St 45 ⟨w0, [], [(true, .cel (.slice ad l.length c) l.length (bcs l))], Z, noX⟩ [(2, true, .slice ad l.length c), (6, true, .slice none 0 0), (7, true, .int .i64 0), (8, true, .pointer (some ⟨g5, 0, none⟩)), (9, true, .pointer (some ⟨g6, 0, none⟩)), (10, true, .int .i64 ((er10 : Nat) : Int)), (11, true, .pointer (some ⟨g11, 0, none⟩)), (12, true, .pointer (some ⟨g12, 0, none⟩))] [(true, g1, 24, (Wl s)), (true, g2, 24, (Wl k)), (true, g5, 24, (Wl d3)), (true, g6, 30, (tab .u8 32 (sK s))), (true, g11, 24, (Wl d9)), (true, g12, 30, (tab .u8 32 (sK k)))] ac _ := hs.re ⟨rfl, rfl, rfl, rfl, rfl, rfl, rfl, rfl, trivial⟩
    refine wp_region_lit ?_
    refine lstep (wpO_plain rfl (op_move hs none rfl rfl rfl rfl fun ac hs => ?_))
    refine lstep (wpO_plain rfl (op_bin hs none (v := .bool (decide (er10 ≠ 0))) rfl rfl rfl rfl (fun _ => rfl) (bin_neqN (x := er10) (y := 0)) rfl fun ac hs => ?_))
    refine wpList_nil ?_
    refine then_n ?_
    refine wp_cond_split (hs.ev rfl) (fun hc => ?_) (fun hc => ?_)
    · skip
      have hp13 := of_decide_eq_true hc
      have hn1 : sE k ≠ 0 := by rw [her10]; simpa using hc
      refine wp_seq ?_
      refine wp_region_lit ?_
      refine lstep (wpO_plain rfl (op_move hs none rfl rfl rfl rfl fun ac hs => ?_))
      refine lstep (wpO_plain rfl (op_assign hs none rfl rfl rfl rfl fun ac hs => ?_))
      refine lstep (wpO_plain rfl (op_assign hs none rfl rfl rfl rfl fun ac hs => ?_))
      refine wpList_nil ?_
      refine then_n ?_
      refine wp_ret ?_
      refine then_r ?_
      exact bodyPost_ret (res2 rfl (rv_t hs rfl) (rv_t hs rfl)) hs.defers ⟨⟨none, 0⟩, by obtain ⟨h1, h2⟩ := sgB_no l (fun h => hn1 h.2); rw [← hb, ← he, h1, h2]; rw [show er10 = 1 from (her10.symm.trans (sE_1 hn1).2)]; first | done | rfl, hs.bel rfl, by obtain ⟨h1, _⟩ := sgB_no l (fun h => hn1 h.2); rw [← hb, h1]; exact okl1 celv_nil⟩
    · skip
      have hp14 := of_decide_eq_false hc
      have hz1 : sE k = 0 := by rw [her10]; simpa using hc
      refine wp_skip ?_
      refine then_n ?_
      refine wp_seq ?_
      replace hs : St 45 ⟨w0, [], [(true, .cel (.slice ad l.length c) l.length (bcs l))], Z, noX⟩ [(2, true, .slice ad l.length c), (6, true, .slice none 0 0), (7, true, .int .i64 0), (8, true, .pointer (some ⟨g5, 0, none⟩)), (9, true, .pointer (some ⟨g6, 0, none⟩)), (11, true, .pointer (some ⟨g11, 0, none⟩)), (12, true, .pointer (some ⟨g12, 0, none⟩))] [(true, g1, 24, (Wl s)), (true, g2, 24, (Wl k)), (true, g5, 24, (Wl d3)), (true, g6, 30, (tab .u8 32 (sK s))), (true, g11, 24, (Wl d9)), (true, g12, 30, (tab .u8 32 (sK k)))] ac _ := hs.re ⟨rfl, rfl, rfl, rfl, rfl, rfl, rfl, trivial⟩
      obtain ⟨e15, he15, le15⟩ : ∃ z0, chal (sK k) (sK s) l = z0 ∧ z0 < 2 ^ 256 := ⟨_, rfl, chal_lt _ _ _⟩
      obtain ⟨r16, hr16, lr16⟩ : ∃ z0, e15 * d3 % Nord = z0 ∧ z0 < 2 ^ 256 := ⟨_, rfl, mN256 _⟩
      obtain ⟨r17, hr17, lr17⟩ : ∃ z0, (d9 + r16) % Nord = z0 ∧ z0 < 2 ^ 256 := ⟨_, rfl, mN256 _⟩
      refine region_inv [([], [7, 8, 10]), ([], [4, 6, 7, 8, 10]), ([], [4, 6, 7, 8, 10]), ([], [4, 6, 7, 8, 10]), ([1, 2, 3], [6, 7, 8, 10]), ([], [6, 7, 8, 10]), ([1, 2, 3, 4, 5], [7, 8, 10]), ([0, 1, 2, 3, 4, 5, 6], [8, 10]), ([0, 1, 2, 3, 4, 5, 6, 7], [10]), ([], [10]), ([0, 1, 2, 3, 4, 5, 6, 7, 8, 9], [])] (fun L ac w => ∃ (g18 : Nat), St 45 ⟨w0, [], [(true, .cel (.slice ad l.length c) l.length (bcs l))], Z, noX⟩ [(32, L 0, W d9), (33, L 1, At .u8 32 (sK k)), (34, L 2, At .u8 32 (sK s)), (35, L 3, .slice ad l.length c), (36, L 4, W e15), (37, L 5, W d3), (38, L 6, W r16), (39, L 7, W r17), (40, L 8, At .u8 32 (by8 r17)), (13, L 9, .pointer (some ⟨g18, 0, none⟩)), (2, true, .slice ad l.length c), (6, true, .slice none 0 0), (7, true, .int .i64 0), (8, true, .pointer (some ⟨g5, 0, none⟩)), (9, true, .pointer (some ⟨g6, 0, none⟩)), (11, true, .pointer (some ⟨g11, 0, none⟩)), (12, true, .pointer (some ⟨g12, 0, none⟩))] [(true, g1, 24, (Wl s)), (true, g2, 24, (Wl k)), (true, g5, 24, (Wl d3)), (true, g6, 30, (tab .u8 32 (sK s))), (true, g11, 24, (Wl d9)), (true, g12, 30, (tab .u8 32 (sK k))), (L 9, g18, 30, (cond (L 10) (tab .u8 32 (by8 r17)) (tab .u8 32 (fun _ => 0))))] ac w) (by kernel_rfl) (by kernel_rfl) ?_ ?_ ?_
      · exact ⟨0, hs.drew.skip.skip.skip.skip.skip.skip.skip.skip.skip.skip.pad⟩
      · refine ⟨?_, ?_, ?_, ?_, ?_, ?_, ?_, ?_, ?_, ?_, ?_, trivial⟩
        · intro L ac w hJ
          obtain ⟨g18, hs⟩ := hJ
          refine wpO_plain rfl (op_load hs (some 0) 4 (v := W d9) rfl rfl rfl rfl Try.isAgg24 Try.sizeOf24 rfl rfl fun ac hs => ?_)
          exact ⟨g18, hs⟩
        · intro L ac w hJ
          obtain ⟨g18, hs⟩ := hJ
          refine wpO_plain rfl (op_load hs (some 1) 5 (v := At .u8 32 (sK k)) rfl rfl rfl rfl Try.isAgg30 Try.sizeOf30 ldv_tab rfl fun ac hs => ?_)
          exact ⟨g18, hs⟩
        · intro L ac w hJ
          obtain ⟨g18, hs⟩ := hJ
          refine wpO_plain rfl (op_load hs (some 2) 3 (v := At .u8 32 (sK s)) rfl rfl rfl rfl Try.isAgg30 Try.sizeOf30 ldv_tab rfl fun ac hs => ?_)
          exact ⟨g18, hs⟩
        · intro L ac w hJ
          obtain ⟨g18, hs⟩ := hJ
          refine wpO_plain rfl (op_move hs (some 3) rfl rfl rfl rfl fun ac hs => ?_)
          exact ⟨g18, hs⟩
        · intro L ac w hJ
          obtain ⟨g18, hs⟩ := hJ
          refine wpO_plain rfl (op_callS (F := 17) (ρ := Unit) hs (some 4) none (v := fun r => W e15) (E := fun r => []) (j := 0) rfl rfl rfl rfl (Try.call17 _) (fun hs => chal_c (sK k) (sK s) ad l.length c l e15 (fun j _ => sK_lt _ j) (fun j _ => sK_lt _ j) (show l.length ≤ 1000 by omega) he15 _ _ (hs.all (k := 0) rfl rfl)) (fun _ => rfl) rfl rfl fun _ ac w hs => ?_)
          exact ⟨g18, hs⟩
        · intro L ac w hJ
          obtain ⟨g18, hs⟩ := hJ
          refine wpO_plain rfl (op_load hs (some 5) 2 (v := W d3) rfl rfl rfl rfl Try.isAgg24 Try.sizeOf24 rfl rfl fun ac hs => ?_)
          exact ⟨g18, hs⟩
        · intro L ac w hJ
          obtain ⟨g18, hs⟩ := hJ
          refine wpO_plain rfl (op_call (F := 16) hs (some 6) (v := W r16) rfl rfl rfl rfl (Try.call16 _) (smul_c e15 d3 r16 le15 ld3 hr16) rfl fun ac w hs => ?_)
          exact ⟨g18, hs⟩
        · intro L ac w hJ
          obtain ⟨g18, hs⟩ := hJ
          refine wpO_plain rfl (op_call (F := 15) hs (some 7) (v := W r17) rfl rfl rfl rfl (Try.call15 _) (sadd_c d9 r16 r17 ld9 lr16 hr17) rfl fun ac w hs => ?_)
          exact ⟨g18, hs⟩
        · intro L ac w hJ
          obtain ⟨g18, hs⟩ := hJ
          refine wpO_plain rfl (op_call (F := 14) hs (some 8) (v := At .u8 32 (by8 r17)) rfl rfl rfl rfl (Try.call14 _) (bytes_c r17 lr17) rfl fun ac w hs => ?_)
          exact ⟨g18, hs⟩
        · intro L ac w hJ
          obtain ⟨g18, hs⟩ := hJ
          refine wpO_plain rfl (op_alloc hs (some 9) (some 6) (cs := (tab .u8 32 (fun _ => 0))) rfl rfl Try.zeroValue30 (by kernel_rfl) rfl rfl fun g18 ac w hs => ?_)
          exact ⟨g18, hs⟩
        · intro L ac w hJ
          obtain ⟨g18, hs⟩ := hJ
          refine wpO_plain rfl (op_store hs 6 (vs := (tab .u8 32 (by8 r17))) rfl rfl rfl rfl rfl Try.sizeOf30 (by kernel_rfl) tab_length' (tab_one _ _ _) tab_leA wr_tab fun w hs => ?_)
          exact ⟨g18, hs⟩
      intro ac w hJ
      obtain ⟨g18, hs⟩ := hJ
      replace hs : St 45 ⟨w0, [], [(true, .cel (.slice ad l.length c) l.length (bcs l))], Z, noX⟩ [(32, true, W d9), (33, true, At .u8 32 (sK k)), (34, true, At .u8 32 (sK s)), (35, true, .slice ad l.length c), (36, true, W e15), (37, true, W d3), (38, true, W r16), (39, true, W r17), (40, true, At .u8 32 (by8 r17)), (13, true, .pointer (some ⟨g18, 0, none⟩)), (2, true, .slice ad l.length c), (6, true, .slice none 0 0), (7, true, .int .i64 0), (8, true, .pointer (some ⟨g5, 0, none⟩)), (9, true, .pointer (some ⟨g6, 0, none⟩)), (11, true, .pointer (some ⟨g11, 0, none⟩)), (12, true, .pointer (some ⟨g12, 0, none⟩))] [(true, g1, 24, (Wl s)), (true, g2, 24, (Wl k)), (true, g5, 24, (Wl d3)), (true, g6, 30, (tab .u8 32 (sK s))), (true, g11, 24, (Wl d9)), (true, g12, 30, (tab .u8 32 (sK k))), (true, g18, 30, (tab .u8 32 (by8 r17)))] ac w := hs
      have hb9 := btl_len 32 (by8 r17)
      refine then_n ?_
      refine wp_seq ?_
      replace hs := hs.arrCel none 5 (n0 := 32) (f := sK k) rfl (fun j hj => (fun j _ => sK_lt _ j) j (by omega)) (by decide) rfl
      replace hs := hs.selB [0, 1, 2, 3, 4, 6] rfl (by decide)
      replace hs := hs.arrCel none 5 (n0 := 32) (f := by8 r17) rfl (fun j hj => by8_lt r17 j) (by decide) rfl
      replace hs := hs.selB [0, 1, 2, 3, 4] rfl (by decide)
      replace hs : St 45 ⟨w0, [], [(true, .cel (.slice ad l.length c) l.length (bcs l)), (true, .cel (.slice (some ⟨g12, 0, none⟩) 32 32) 32 (bcs (btl 32 (sK k)))), (true, .cel (.slice (some ⟨g18, 0, none⟩) 32 32) 32 (bcs (btl 32 (by8 r17))))], Z, noX⟩ [(6, true, .slice none 0 0), (7, true, .int .i64 0), (12, true, .pointer (some ⟨g12, 0, none⟩)), (13, true, .pointer (some ⟨g18, 0, none⟩))] [(true, g1, 24, (Wl s)), (true, g2, 24, (Wl k)), (true, g5, 24, (Wl d3)), (true, g6, 30, (tab .u8 32 (sK s))), (true, g11, 24, (Wl d9))] ac _ := hs.re ⟨rfl, rfl, rfl, rfl, trivial⟩
      refine region_inv [([], [2, 3, 4, 5]), ([], [2, 3, 4, 5]), ([0, 1], [3, 4, 5]), ([0, 1, 2], [4, 5]), ([0, 1, 2, 3], [5]), ([0, 1, 2, 3, 4], [])] (fun L ac w => ∃ (ad20 : Option Addr) (ad21 : Option Addr) (cp22 : Nat), St 45 ⟨w0, [], [(true, .cel (.slice ad l.length c) l.length (bcs l)), (true, .cel (.slice (some ⟨g12, 0, none⟩) 32 32) 32 (bcs (btl 32 (sK k)))), (true, .cel (.slice (some ⟨g18, 0, none⟩) 32 32) 32 (bcs (btl 32 (by8 r17)))), (L 2, .cel (.slice ad20 2 2) 2 ([.slice (some ⟨g12, 0, none⟩) 32 32, .slice (some ⟨g18, 0, none⟩) 32 32])), (L 3, .cel (.slice ad21 (((btl 32 (sK k)) ++ (btl 32 (by8 r17))).length) cp22) (((btl 32 (sK k)) ++ (btl 32 (by8 r17))).length) (bcs ((btl 32 (sK k)) ++ (btl 32 (by8 r17)))))], Z, noX⟩ [(41, L 0, .slice (some ⟨g12, 0, none⟩) 32 32), (42, L 1, .slice (some ⟨g18, 0, none⟩) 32 32), (43, L 2, .slice ad20 2 2), (44, L 3, .slice ad21 (((btl 32 (sK k)) ++ (btl 32 (by8 r17))).length) cp22), (6, L 4, cond (L 4) (.slice ad21 (((btl 32 (sK k)) ++ (btl 32 (by8 r17))).length) cp22) undef), (7, L 5, .int .i64 0), (6, true, .slice none 0 0), (7, true, .int .i64 0), (12, true, .pointer (some ⟨g12, 0, none⟩)), (13, true, .pointer (some ⟨g18, 0, none⟩))] [(true, g1, 24, (Wl s)), (true, g2, 24, (Wl k)), (true, g5, 24, (Wl d3)), (true, g6, 30, (tab .u8 32 (sK s))), (true, g11, 24, (Wl d9))] ac w) (by kernel_rfl) (by kernel_rfl) ?_ ?_ ?_
      · exact ⟨none, none, 0, hs.drew.skip.skip.skip.skip.skip.skip.padS.padS⟩
      · refine ⟨?_, ?_, ?_, ?_, ?_, ?_, trivial⟩
        · intro L ac w hJ
          obtain ⟨ad20, ad21, cp22, hs⟩ := hJ
          refine wpO_plain rfl (op_val hs (some 0) (v := .slice (some ⟨g12, 0, none⟩) 32 32) rfl rfl (run_slA rfl (hs.ev rfl) Try.underlying30 Try.sizeOf5) fun ac hs => ?_)
          exact ⟨ad20, ad21, cp22, hs⟩
        · intro L ac w hJ
          obtain ⟨ad20, ad21, cp22, hs⟩ := hJ
          refine wpO_plain rfl (op_val hs (some 1) (v := .slice (some ⟨g18, 0, none⟩) 32 32) rfl rfl (run_slA rfl (hs.ev rfl) Try.underlying30 Try.sizeOf5) fun ac hs => ?_)
          exact ⟨ad20, ad21, cp22, hs⟩
        · intro L ac w hJ
          obtain ⟨ad20, ad21, cp22, hs⟩ := hJ
          refine wpO_plain rfl (op_bsC hs (some 2) (some 3) (qs := [(0, .slice (some ⟨g12, 0, none⟩) 32 32), (1, .slice (some ⟨g18, 0, none⟩) 32 32)]) (cs := [.slice (some ⟨g12, 0, none⟩) 32 32, .slice (some ⟨g18, 0, none⟩) 32 32]) rfl rfl rfl rfl Try.underlying67 inf_slice_25 (by decide) (by decide) (fill_two _ _ _ rfl rfl ) rfl rfl rfl rfl fun ad20 ac w hs => ?_)
          exact ⟨ad20, ad21, cp22, hs⟩
        · intro L ac w hJ
          obtain ⟨ad20, ad21, cp22, hs⟩ := hJ
          refine wpO_plain rfl (op_callS (F := 18) (ρ := Option Addr × Nat) hs (some 3) (some 4) (v := fun r => .slice r.1 (((btl 32 (sK k)) ++ (btl 32 (by8 r17))).length) r.2) (E := fun r => [.cel (.slice r.1 (((btl 32 (sK k)) ++ (btl 32 (by8 r17))).length) r.2) (((btl 32 (sK k)) ++ (btl 32 (by8 r17))).length) (bcs ((btl 32 (sK k)) ++ (btl 32 (by8 r17))))]) (j := 1) rfl rfl rfl rfl (Try.call18 _) (fun hs => joined_c ad20 2 2 [.slice (some ⟨g12, 0, none⟩) 32 32, .slice (some ⟨g18, 0, none⟩) 32 32] [btl 32 (sK k), btl 32 (by8 r17)] ((btl 32 (sK k)) ++ (btl 32 (by8 r17))) (by simp [List.append_assoc]) rfl (Nat.le_of_ble_eq_true rfl) (show ((btl 32 (sK k)) ++ (btl 32 (by8 r17))).length ≤ 100000 by first | omega | ((try simp only [List.length_drop, List.length_take, List.length_append, List.length_cons, List.length_nil]); omega)) _ _ (hs.all (k := 3) rfl rfl) (bysC (hs.all (k := 1) rfl rfl) (bysC (hs.all (k := 2) rfl rfl) bys0))) (fun _ => rfl) rfl rfl fun ⟨ad21, cp22⟩ ac w hs => ?_)
          exact ⟨ad20, ad21, cp22, hs⟩
        · intro L ac w hJ
          obtain ⟨ad20, ad21, cp22, hs⟩ := hJ
          refine wpO_plain rfl (op_assign hs (some 4) rfl rfl rfl rfl fun ac hs => ?_)
          exact ⟨ad20, ad21, cp22, hs⟩
        · intro L ac w hJ
          obtain ⟨ad20, ad21, cp22, hs⟩ := hJ
          refine wpO_plain rfl (op_assign hs (some 5) rfl rfl rfl rfl fun ac hs => ?_)
          exact ⟨ad20, ad21, cp22, hs⟩
      intro ac w hJ
      obtain ⟨ad20, ad21, cp22, hs⟩ := hJ
      replace hs : St 45 ⟨w0, [], [(true, .cel (.slice ad l.length c) l.length (bcs l)), (true, .cel (.slice (some ⟨g12, 0, none⟩) 32 32) 32 (bcs (btl 32 (sK k)))), (true, .cel (.slice (some ⟨g18, 0, none⟩) 32 32) 32 (bcs (btl 32 (by8 r17)))), (true, .cel (.slice ad20 2 2) 2 ([.slice (some ⟨g12, 0, none⟩) 32 32, .slice (some ⟨g18, 0, none⟩) 32 32])), (true, .cel (.slice ad21 (((btl 32 (sK k)) ++ (btl 32 (by8 r17))).length) cp22) (((btl 32 (sK k)) ++ (btl 32 (by8 r17))).length) (bcs ((btl 32 (sK k)) ++ (btl 32 (by8 r17)))))], Z, noX⟩ [(41, true, .slice (some ⟨g12, 0, none⟩) 32 32), (42, true, .slice (some ⟨g18, 0, none⟩) 32 32), (43, true, .slice ad20 2 2), (44, true, .slice ad21 (((btl 32 (sK k)) ++ (btl 32 (by8 r17))).length) cp22), (6, true, .slice ad21 (((btl 32 (sK k)) ++ (btl 32 (by8 r17))).length) cp22), (7, true, .int .i64 0), (6, true, .slice none 0 0), (7, true, .int .i64 0), (12, true, .pointer (some ⟨g12, 0, none⟩)), (13, true, .pointer (some ⟨g18, 0, none⟩))] [(true, g1, 24, (Wl s)), (true, g2, 24, (Wl k)), (true, g5, 24, (Wl d3)), (true, g6, 30, (tab .u8 32 (sK s))), (true, g11, 24, (Wl d9))] ac w := hs
      refine then_n ?_
      refine wp_ret ?_
      obtain ⟨hg1, hg2⟩ := sgB_yes (s := s) (k := k) l hz0 hz1
      have hz : sgS s k l = r17 := by unfold sgS; rw [he15, hd3, hd9, hr16, hr17]
      rw [show (btl 32 (sK k)) ++ (btl 32 (by8 r17)) = b from (by rw [← hb, hg1, hz])] at hs
      exact bodyPost_ret (res2 rfl (rv_t hs rfl) (rv_t hs rfl)) hs.defers ⟨⟨ad21, cp22⟩, by rw [← he, hg2]; rfl, hs.bel rfl, hs.ret1 4 rfl⟩
theorem turning_c (f : Nat → Nat) (ad : Option Addr) (nl c : Nat) (l : List UInt8) (x : Nat) (q : Bool) (hf : ∀ j, j < 32 → f j < 256) (hlen : l.length ≤ 1000) (hx : rdN (tuB f l) = x) (hq : decide (pr (tuB f l) 0 32 < Nord) = q) (w0 : World) (Z : Nat → Prop) (hl : ByV w0 Z (.slice ad nl c) l): Calls Try.prog 24 #[At .u8 32 f, .slice ad nl c] w0 fun e w' => Ret w0 Z (ρ := Unit) (fun r => .tuple #[W x, .bool q]) (fun r => []) e w' := by
  obtain rfl := byv_len hl
  have hbf := btl_len 32 f
  refine enterS (n := 14) (args := [At .u8 32 f, .slice ad l.length c]) (S := [(true, .cel (.slice ad l.length c) l.length (bcs l))]) (Z := Z) Try.func24 rfl rfl (Nat.le_of_ble_eq_true rfl) (sokC hl sok0) rfl fun ac hs => ?_
  refine wp_seq ?_
  refine wp_region_lit ?_
  refine lstep (wpO_plain rfl (op_box hs none none (cs := (tab .u8 32 f)) rfl rfl rfl rfl rfl rfl fun g1 ac w hs => ?_))
  refine lstep (wpO_plain rfl (op_alloc hs none none (cs := [.int .u64 0, .int .u64 0, .int .u64 0, .int .u64 0]) rfl rfl Try.zeroValue24 (by kernel_rfl) rfl rfl fun g2 ac w hs => ?_))
  refine lstep (wpO_plain rfl (op_assign hs none rfl rfl rfl rfl fun ac hs => ?_))
  refine wpList_nil ?_
  refine then_n ?_
  refine wp_seq ?_
  refine wp_region_lit ?_
  replace hs := hs.arrCel none 0 (n0 := 32) (f := f) rfl (fun j hj => hf j (by omega)) (by decide) rfl
  replace hs := hs.selB [1] rfl (by decide)
  refine lstep (wpO_plain rfl (op_val hs none (v := .slice (some ⟨g1, 0, none⟩) 32 32) rfl rfl (run_slA rfl (hs.ev rfl) Try.underlying30 Try.sizeOf5) fun ac hs => ?_))
  refine lstep (wpO_plain rfl (op_move hs none rfl rfl rfl rfl fun ac hs => ?_))
  refine lstep (wpO_plain rfl (op_bsC hs none none (qs := [(0, .slice (some ⟨g1, 0, none⟩) 32 32), (1, .slice ad l.length c)]) (cs := [.slice (some ⟨g1, 0, none⟩) 32 32, .slice ad l.length c]) rfl rfl rfl rfl Try.underlying67 inf_slice_25 (by decide) (by decide) (fill_two _ _ _ rfl rfl ) rfl rfl rfl rfl fun ad4 ac w hs => ?_))
  refine lstep (wpO_plain rfl (op_callS (F := 18) (ρ := Option Addr × Nat) hs none none (v := fun r => .slice r.1 (((btl 32 f) ++ l).length) r.2) (E := fun r => [.cel (.slice r.1 (((btl 32 f) ++ l).length) r.2) (((btl 32 f) ++ l).length) (bcs ((btl 32 f) ++ l))]) (j := 1) rfl rfl rfl rfl (Try.call18 _) (fun hs => joined_c ad4 2 2 [.slice (some ⟨g1, 0, none⟩) 32 32, .slice ad l.length c] [btl 32 f, l] ((btl 32 f) ++ l) (by simp [List.append_assoc]) rfl (Nat.le_of_ble_eq_true rfl) (show ((btl 32 f) ++ l).length ≤ 100000 by first | omega | ((try simp only [List.length_drop, List.length_take, List.length_append, List.length_cons, List.length_nil]); omega)) _ _ (hs.all (k := 2) rfl rfl) (bysC (hs.all (k := 1) rfl rfl) (bysC (hs.all (k := 0) rfl rfl) bys0))) (fun _ => rfl) rfl rfl fun ⟨ad5, cp6⟩ ac w hs => ?_))
  refine lstep (wpO_plain rfl (op_callS (F := 33) (ρ := Unit) hs none none (v := fun r => At .u8 32 (tagH tuTag ((btl 32 f) ++ l))) (E := fun r => []) (j := 0) rfl rfl rfl rfl (Try.call33 _) (fun hs => tagged_c tuTag ad5 (((btl 32 f) ++ l).length) cp6 ((btl 32 f) ++ l) (by decide) (show ((btl 32 f) ++ l).length ≤ 100000 by first | omega | ((try simp only [List.length_drop, List.length_take, List.length_append, List.length_cons, List.length_nil]); omega)) _ _ (hs.all (k := 3) rfl rfl)) (fun _ => rfl) rfl rfl fun _ ac w hs => ?_))
  obtain ⟨a7, ha7, la7⟩ : ∃ z0, rdN (tagH tuTag ((btl 32 f) ++ l)) = z0 ∧ z0 < 2 ^ 256 := ⟨_, rfl, rdN_lt _⟩
  obtain ⟨q8, hq8⟩ : ∃ z0, decide (pr (tagH tuTag ((btl 32 f) ++ l)) 0 32 < Nord) = z0 := ⟨_, rfl⟩
  refine lstep (wpO_plain rfl (op_call (F := 20) hs none (v := .tuple #[W a7, .bool q8]) rfl rfl rfl rfl (Try.call20 _) (sread_c (tagH tuTag ((btl 32 f) ++ l)) a7 q8 (fun j _ => tagH_lt _ _ j) ha7 hq8) rfl fun ac w hs => ?_))
  refine lstep (wpO_plain rfl (op_extract hs none rfl rfl rfl rfl rfl fun ac hs => ?_))
  refine lstep (wpO_plain rfl (op_extract hs none rfl rfl rfl rfl rfl fun ac hs => ?_))
  refine lstep (wpO_plain rfl (op_store hs 0 (vs := (Wl a7)) rfl rfl rfl rfl rfl Try.sizeOf24 rfl rfl rfl rfl rfl fun w hs => ?_))
  refine lstep (wpO_plain rfl (op_assign hs none rfl rfl rfl rfl fun ac hs => ?_))
  refine wpList_nil ?_
  refine then_n ?_
  refine wp_ret ?_
  exact bodyPost_ret (res2 rfl (rv_c hs 0 (v := W a7) rfl rfl Try.isAgg24 Try.sizeOf24 rfl) (rv_t hs rfl)) hs.defers ⟨(), by rw [show a7 = x from ha7.symm.trans hx, show q8 = q from hq8.symm.trans hq]; first | done | rfl, hs.bel rfl, okl0⟩
theorem turn15_c (f : Nat → Nat) (ad : Option Addr) (nl c : Nat) (l : List UInt8) (q : Bool) (er : Nat) (hf : ∀ j, j < 32 → f j < 256) (hlen : l.length ≤ 1000) (hq : tuO f l = q) (he : tuE f l = er) (w0 : World) (Z : Nat → Prop) (hl : ByV w0 Z (.slice ad nl c) l): Calls Try.prog 10 #[At .u8 32 f, .slice ad nl c] w0 fun e w' => Ret w0 Z (ρ := Unit) (fun r => .tuple #[At .u8 32 (tuK f l), .bool q, .int .i64 ((er : Nat) : Int)]) (fun r => []) e w' := by
  obtain rfl := byv_len hl
  refine enterS (n := 41) (args := [At .u8 32 f, .slice ad l.length c]) (S := [(true, .cel (.slice ad l.length c) l.length (bcs l))]) (Z := Z) Try.func10 rfl rfl (Nat.le_of_ble_eq_true rfl) (sokC hl sok0) rfl fun ac hs => ?_
  refine wp_seq ?_
  refine wp_region_lit ?_
  refine lstep (wpO_plain rfl (op_box hs none none (cs := (tab .u8 32 f)) rfl rfl rfl rfl rfl rfl fun g1 ac w hs => ?_))
  refine lstep (wpO_plain rfl (op_alloc hs none none (cs := (tab .u8 32 (fun _ => 0))) rfl rfl Try.zeroValue30 (by kernel_rfl) rfl rfl fun g2 ac w hs => ?_))
  refine lstep (wpO_plain rfl (op_assign hs none rfl rfl rfl rfl fun ac hs => ?_))
  refine lstep (wpO_plain rfl (op_assign hs none rfl rfl rfl rfl fun ac hs => ?_))
  refine wpList_nil ?_
  refine then_n ?_
  refine wp_seq ?_
  refine wp_region_lit ?_
  refine lstep (wpO_plain rfl (op_load hs none 0 (v := At .u8 32 f) rfl rfl rfl rfl Try.isAgg30 Try.sizeOf30 ldv_tab rfl fun ac hs => ?_))
  obtain ⟨T3, hT3, oT3⟩ := mkLift (pr f 0 32)
  refine lstep (wpO_plain rfl (op_call (F := 19) hs none (v := .tuple #[PV (px T3) (py T3) (pz T3), .bool (!pz T3)]) rfl rfl rfl rfl (Try.call19 _) (lift14_c f T3 hf hT3) rfl fun ac w hs => ?_))
  refine lstep (wpO_plain rfl (op_move hs none rfl rfl rfl rfl fun ac hs => ?_))
  refine lstep (wpO_plain rfl (op_extract hs none rfl rfl rfl rfl rfl fun ac hs => ?_))
  refine lstep (wpO_plain rfl (op_extract hs none rfl rfl rfl rfl rfl fun ac hs => ?_))
  refine lstep (wpO_plain rfl (op_alloc hs none none (cs := (PVl 0 0 false)) rfl rfl Try.zeroValue41 (by kernel_rfl) rfl rfl fun g4 ac w hs => ?_))
  refine lstep (wpO_plain rfl (op_store hs 2 (vs := (PVl (px T3) (py T3) (pz T3))) rfl rfl rfl rfl rfl Try.sizeOf41 rfl rfl rfl rfl rfl fun w hs => ?_))
  refine lstep (wpO_plain rfl (op_assign hs none rfl rfl rfl rfl fun ac hs => ?_))
  refine wpList_nil ?_
  refine then_n ?_
  refine wp_seq ?_
  refine wp_seq ?_
  by_cases hq5 : pz T3 = true
  · skip
    replace hs := hs.re (fs' := [(0, true, At .u8 32 f), (1, true, .slice ad l.length c), (2, true, .pointer (some ⟨g1, 0, none⟩)), (4, true, .pointer (some ⟨g2, 0, none⟩)), (5, true, .bool false), (6, true, .int .i64 0), (12, true, At .u8 32 f), (13, true, .tuple #[PV (px T3) (py T3) (pz T3), .bool (!pz T3)]), (11, true, .tuple #[PV (px T3) (py T3) (pz T3), .bool (!pz T3)]), (14, true, PV (px T3) (py T3) (pz T3)), (15, true, .bool (!pz T3)), (7, true, .pointer (some ⟨g4, 0, none⟩)), (8, true, .bool false)]) ⟨rfl, rfl, rfl, rfl, rfl, rfl, rfl, rfl, rfl, rfl, rfl, rfl, congrArg some (congrArg Value.bool (by rw [hq5]; rfl)), trivial⟩
    replace hs : St 41 ⟨w0, [], [(true, .cel (.slice ad l.length c) l.length (bcs l))], Z, noX⟩ [(1, true, .slice ad l.length c), (2, true, .pointer (some ⟨g1, 0, none⟩)), (4, true, .pointer (some ⟨g2, 0, none⟩)), (5, true, .bool false), (6, true, .int .i64 0), (7, true, .pointer (some ⟨g4, 0, none⟩)), (8, true, .bool false)] [(true, g1, 30, (tab .u8 32 f)), (true, g2, 30, (tab .u8 32 (fun _ => 0))), (true, g4, 41, (PVl (px T3) (py T3) (pz T3)))] ac _ := hs.re ⟨rfl, rfl, rfl, rfl, rfl, rfl, rfl, trivial⟩
    refine wp_region_lit ?_
    refine lstep (wpO_plain rfl (op_move hs none rfl rfl rfl rfl fun ac hs => ?_))
    refine lstep (wpO_plain rfl (op_un hs none (v := .bool true) rfl rfl rfl (fun _ => rfl) rfl fun ac hs => ?_))
    refine wpList_nil ?_
    refine then_n ?_
    refine wp_cond_true (hs.ev rfl) ?_
    refine wp_seq ?_
    refine wp_region_lit ?_
    refine lstep (wpO_plain rfl (op_build hs none (qs := []) (v := At .u8 32 (fun _ => 0)) rfl rfl rfl rfl (fun _ => by kernel_rfl) rfl fun ac hs => ?_))
    refine lstep (wpO_plain rfl (op_store hs 1 (vs := (tab .u8 32 (fun _ => 0))) rfl rfl rfl rfl rfl Try.sizeOf30 (by kernel_rfl) tab_length' (tab_one _ _ _) tab_leA wr_tab fun w hs => ?_))
    refine lstep (wpO_plain rfl (op_assign hs none rfl rfl rfl rfl fun ac hs => ?_))
    refine lstep (wpO_plain rfl (op_assign hs none rfl rfl rfl rfl fun ac hs => ?_))
    refine wpList_nil ?_
    refine then_n ?_
    refine wp_ret ?_
    refine then_r ?_
    exact bodyPost_ret (res3 rfl (rv_c hs 1 (v := At .u8 32 (fun _ => 0)) rfl rfl Try.isAgg30 Try.sizeOf30 ldv_tab) (rv_t hs rfl) (rv_t hs rfl)) hs.defers ⟨(), by obtain ⟨h1, h2, h3⟩ := tu_no (inner := f) (root := l) (fun h => by have := h.1; rw [hT3, hq5] at this; cases this); rw [h1, ← hq, h2, ← he, h3]; first | done | rfl, hs.bel rfl, okl0⟩
  · skip
    replace hs := hs.re (fs' := [(0, true, At .u8 32 f), (1, true, .slice ad l.length c), (2, true, .pointer (some ⟨g1, 0, none⟩)), (4, true, .pointer (some ⟨g2, 0, none⟩)), (5, true, .bool false), (6, true, .int .i64 0), (12, true, At .u8 32 f), (13, true, .tuple #[PV (px T3) (py T3) (pz T3), .bool (!pz T3)]), (11, true, .tuple #[PV (px T3) (py T3) (pz T3), .bool (!pz T3)]), (14, true, PV (px T3) (py T3) (pz T3)), (15, true, .bool (!pz T3)), (7, true, .pointer (some ⟨g4, 0, none⟩)), (8, true, .bool true)]) ⟨rfl, rfl, rfl, rfl, rfl, rfl, rfl, rfl, rfl, rfl, rfl, rfl, congrArg some (congrArg Value.bool (by rw [Bool.eq_false_iff.2 hq5]; rfl)), trivial⟩
    replace hs : St 41 ⟨w0, [], [(true, .cel (.slice ad l.length c) l.length (bcs l))], Z, noX⟩ [(1, true, .slice ad l.length c), (2, true, .pointer (some ⟨g1, 0, none⟩)), (4, true, .pointer (some ⟨g2, 0, none⟩)), (5, true, .bool false), (6, true, .int .i64 0), (7, true, .pointer (some ⟨g4, 0, none⟩)), (8, true, .bool true)] [(true, g1, 30, (tab .u8 32 f)), (true, g2, 30, (tab .u8 32 (fun _ => 0))), (true, g4, 41, (PVl (px T3) (py T3) (pz T3)))] ac _ := hs.re ⟨rfl, rfl, rfl, rfl, rfl, rfl, rfl, trivial⟩
    refine wp_region_lit ?_
    refine lstep (wpO_plain rfl (op_move hs none rfl rfl rfl rfl fun ac hs => ?_))
    refine lstep (wpO_plain rfl (op_un hs none (v := .bool false) rfl rfl rfl (fun _ => rfl) rfl fun ac hs => ?_))
    refine wpList_nil ?_
    refine then_n ?_
    refine wp_cond_false (hs.ev rfl) ?_
    refine wp_skip ?_
    refine then_n ?_
    refine wp_seq ?_
    refine wp_region_lit ?_
    refine lstep (wpO_plain rfl (op_load hs none 0 (v := At .u8 32 f) rfl rfl rfl rfl Try.isAgg30 Try.sizeOf30 ldv_tab rfl fun ac hs => ?_))
    refine lstep (wpO_plain rfl (op_move hs none rfl rfl rfl rfl fun ac hs => ?_))
    obtain ⟨a6, ha6, la6⟩ : ∃ z0, rdN (tuB f l) = z0 ∧ z0 < 2 ^ 256 := ⟨_, rfl, rdN_lt _⟩
    obtain ⟨q7, hq7⟩ : ∃ z0, decide (pr (tuB f l) 0 32 < Nord) = z0 := ⟨_, rfl⟩
    refine lstep (wpO_plain rfl (op_callS (F := 24) (ρ := Unit) hs none none (v := fun r => .tuple #[W a6, .bool q7]) (E := fun r => []) (j := 0) rfl rfl rfl rfl (Try.call24 _) (fun hs => turning_c f ad l.length c l a6 q7 hf (show l.length ≤ 1000 by omega) ha6 hq7 _ _ (hs.all (k := 0) rfl rfl)) (fun _ => rfl) rfl rfl fun _ ac w hs => ?_))
    refine lstep (wpO_plain rfl (op_move hs none rfl rfl rfl rfl fun ac hs => ?_))
    refine lstep (wpO_plain rfl (op_extract hs none rfl rfl rfl rfl rfl fun ac hs => ?_))
    refine lstep (wpO_plain rfl (op_extract hs none rfl rfl rfl rfl rfl fun ac hs => ?_))
    refine lstep (wpO_plain rfl (op_alloc hs none none (cs := [.int .u64 0, .int .u64 0, .int .u64 0, .int .u64 0]) rfl rfl Try.zeroValue24 (by kernel_rfl) rfl rfl fun g8 ac w hs => ?_))
    refine lstep (wpO_plain rfl (op_store hs 3 (vs := (Wl a6)) rfl rfl rfl rfl rfl Try.sizeOf24 rfl rfl rfl rfl rfl fun w hs => ?_))
    refine lstep (wpO_plain rfl (op_assign hs none rfl rfl rfl rfl fun ac hs => ?_))
    refine wpList_nil ?_
    refine then_n ?_
    refine wp_seq ?_
    refine wp_seq ?_
    replace hs : St 41 ⟨w0, [], [(true, .cel (.slice ad l.length c) l.length (bcs l))], Z, noX⟩ [(4, true, .pointer (some ⟨g2, 0, none⟩)), (5, true, .bool false), (6, true, .int .i64 0), (7, true, .pointer (some ⟨g4, 0, none⟩)), (8, true, .bool q7), (9, true, .pointer (some ⟨g8, 0, none⟩))] [(true, g1, 30, (tab .u8 32 f)), (true, g2, 30, (tab .u8 32 (fun _ => 0))), (true, g4, 41, (PVl (px T3) (py T3) (pz T3))), (true, g8, 24, (Wl a6))] ac _ := hs.re ⟨rfl, rfl, rfl, rfl, rfl, rfl, trivial⟩
    refine wp_region_lit ?_
    refine lstep (wpO_plain rfl (op_move hs none rfl rfl rfl rfl fun ac hs => ?_))
    refine lstep (wpO_plain rfl (op_un hs none (v := .bool (!q7)) rfl rfl rfl (fun _ => rfl) rfl fun ac hs => ?_))
    refine wpList_nil ?_
    refine then_n ?_
    refine wp_cond_split (hs.ev rfl) (fun hc => ?_) (fun hc => ?_)
    · skip
      have hnr : ¬ pr (tuB f l) 0 32 < Nord := of_decide_eq_false (hq7.trans (by simpa using hc))
      refine wp_seq ?_
      refine wp_region_lit ?_
      refine lstep (wpO_plain rfl (op_build hs none (qs := []) (v := At .u8 32 (fun _ => 0)) rfl rfl rfl rfl (fun _ => by kernel_rfl) rfl fun ac hs => ?_))
      refine lstep (wpO_plain rfl (op_store hs 1 (vs := (tab .u8 32 (fun _ => 0))) rfl rfl rfl rfl rfl Try.sizeOf30 (by kernel_rfl) tab_length' (tab_one _ _ _) tab_leA wr_tab fun w hs => ?_))
      refine lstep (wpO_plain rfl (op_assign hs none rfl rfl rfl rfl fun ac hs => ?_))
      refine lstep (wpO_plain rfl (op_assign hs none rfl rfl rfl rfl fun ac hs => ?_))
      refine wpList_nil ?_
      refine then_n ?_
      refine wp_ret ?_
      refine then_r ?_
      exact bodyPost_ret (res3 rfl (rv_c hs 1 (v := At .u8 32 (fun _ => 0)) rfl rfl Try.isAgg30 Try.sizeOf30 ldv_tab) (rv_t hs rfl) (rv_t hs rfl)) hs.defers ⟨(), by obtain ⟨h1, h2, h3⟩ := tu_no (inner := f) (root := l) (fun h => hnr h.2.1); rw [h1, ← hq, h2, ← he, h3]; first | done | rfl, hs.bel rfl, okl0⟩
    · skip
      have hyr : pr (tuB f l) 0 32 < Nord := of_decide_eq_true (hq7.trans (by simpa using hc))
      refine wp_skip ?_
      refine then_n ?_
      refine wp_seq ?_
      replace hs : St 41 ⟨w0, [], [(true, .cel (.slice ad l.length c) l.length (bcs l))], Z, noX⟩ [(4, true, .pointer (some ⟨g2, 0, none⟩)), (5, true, .bool false), (6, true, .int .i64 0), (7, true, .pointer (some ⟨g4, 0, none⟩)), (9, true, .pointer (some ⟨g8, 0, none⟩))] [(true, g1, 30, (tab .u8 32 f)), (true, g2, 30, (tab .u8 32 (fun _ => 0))), (true, g4, 41, (PVl (px T3) (py T3) (pz T3))), (true, g8, 24, (Wl a6))] ac _ := hs.re ⟨rfl, rfl, rfl, rfl, rfl, trivial⟩
      obtain ⟨T9, hT9, oT9⟩ := mkBoth 1 a6 oT3 Gp_on
      refine region_inv [([], [3, 4, 6]), ([], [4, 6]), ([], [4, 6]), ([0], [4, 6]), ([0, 1, 2, 3], [6]), ([], [6]), ([0, 1, 2, 3, 4, 5], [])] (fun L ac w => ∃ (g10 : Nat), St 41 ⟨w0, [], [(true, .cel (.slice ad l.length c) l.length (bcs l))], Z, noX⟩ [(28, L 0, W 1), (29, L 1, PV (px T3) (py T3) (pz T3)), (30, L 2, W a6), (31, L 3, PV (px Gp) (py Gp) (pz Gp)), (32, L 4, PV (px T9) (py T9) (pz T9)), (10, L 5, .pointer (some ⟨g10, 0, none⟩)), (4, true, .pointer (some ⟨g2, 0, none⟩)), (5, true, .bool false), (6, true, .int .i64 0), (7, true, .pointer (some ⟨g4, 0, none⟩)), (9, true, .pointer (some ⟨g8, 0, none⟩))] [(true, g1, 30, (tab .u8 32 f)), (true, g2, 30, (tab .u8 32 (fun _ => 0))), (true, g4, 41, (PVl (px T3) (py T3) (pz T3))), (true, g8, 24, (Wl a6)), (L 5, g10, 41, (cond (L 6) (PVl (px T9) (py T9) (pz T9)) (PVl 0 0 false)))] ac w) (by kernel_rfl) (by kernel_rfl) ?_ ?_ ?_
      · exact ⟨0, hs.drew.skip.skip.skip.skip.skip.skip.pad⟩
      · refine ⟨?_, ?_, ?_, ?_, ?_, ?_, ?_, trivial⟩
        · intro L ac w hJ
          obtain ⟨g10, hs⟩ := hJ
          refine wpO_plain rfl (op_call (F := 25) hs (some 0) (v := W 1) rfl rfl rfl rfl (Try.call25 _) (fun w => from_any w 1 (by decide)) rfl fun ac w hs => ?_)
          exact ⟨g10, hs⟩
        · intro L ac w hJ
          obtain ⟨g10, hs⟩ := hJ
          refine wpO_plain rfl (op_load hs (some 1) 2 (v := PV (px T3) (py T3) (pz T3)) rfl rfl rfl rfl Try.isAgg41 Try.sizeOf41 rfl rfl fun ac hs => ?_)
          exact ⟨g10, hs⟩
        · intro L ac w hJ
          obtain ⟨g10, hs⟩ := hJ
          refine wpO_plain rfl (op_load hs (some 2) 3 (v := W a6) rfl rfl rfl rfl Try.isAgg24 Try.sizeOf24 rfl rfl fun ac hs => ?_)
          exact ⟨g10, hs⟩
        · intro L ac w hJ
          obtain ⟨g10, hs⟩ := hJ
          refine wpO_plain rfl (op_call (F := 12) hs (some 3) (v := PV (px Gp) (py Gp) (pz Gp)) rfl rfl rfl rfl (Try.call12 _) base_c rfl fun ac w hs => ?_)
          exact ⟨g10, hs⟩
        · intro L ac w hJ
          obtain ⟨g10, hs⟩ := hJ
          refine wpO_plain rfl (op_call (F := 22) hs (some 4) (v := PV (px T9) (py T9) (pz T9)) rfl rfl rfl rfl (Try.call22 _) (both_c 1 (px T3) (py T3) (pz T3) a6 (px Gp) (py Gp) (pz Gp) T3 Gp T9 (by decide) (px_lt T3) (py_lt T3) la6 (px_lt Gp) (py_lt Gp) (pt_back oT3) (pt_back Gp_on) hT9) rfl fun ac w hs => ?_)
          exact ⟨g10, hs⟩
        · intro L ac w hJ
          obtain ⟨g10, hs⟩ := hJ
          refine wpO_plain rfl (op_alloc hs (some 5) (some 4) (cs := (PVl 0 0 false)) rfl rfl Try.zeroValue41 (by kernel_rfl) rfl rfl fun g10 ac w hs => ?_)
          exact ⟨g10, hs⟩
        · intro L ac w hJ
          obtain ⟨g10, hs⟩ := hJ
          refine wpO_plain rfl (op_store hs 4 (vs := (PVl (px T9) (py T9) (pz T9))) rfl rfl rfl rfl rfl Try.sizeOf41 rfl rfl rfl rfl rfl fun w hs => ?_)
          exact ⟨g10, hs⟩
      intro ac w hJ
      obtain ⟨g10, hs⟩ := hJ
      replace hs : St 41 ⟨w0, [], [(true, .cel (.slice ad l.length c) l.length (bcs l))], Z, noX⟩ [(28, true, W 1), (29, true, PV (px T3) (py T3) (pz T3)), (30, true, W a6), (31, true, PV (px Gp) (py Gp) (pz Gp)), (32, true, PV (px T9) (py T9) (pz T9)), (10, true, .pointer (some ⟨g10, 0, none⟩)), (4, true, .pointer (some ⟨g2, 0, none⟩)), (5, true, .bool false), (6, true, .int .i64 0), (7, true, .pointer (some ⟨g4, 0, none⟩)), (9, true, .pointer (some ⟨g8, 0, none⟩))] [(true, g1, 30, (tab .u8 32 f)), (true, g2, 30, (tab .u8 32 (fun _ => 0))), (true, g4, 41, (PVl (px T3) (py T3) (pz T3))), (true, g8, 24, (Wl a6)), (true, g10, 41, (PVl (px T9) (py T9) (pz T9)))] ac w := hs
      refine then_n ?_
      refine wp_seq ?_
      refine wp_seq ?_
      refine wp_region_lit ?_
      refine lstep (wpO_plain rfl (op_fieldA hs none rfl rfl rfl Try.underlying41 rfl Try.sizeOf4 (by decide) rfl fun ac hs => ?_))
      refine lstep (wpO_plain rfl (op_load hs none 4 (v := .bool (pz T9)) rfl rfl rfl rfl Try.isAgg4 Try.sizeOf4 rfl rfl fun ac hs => ?_))
      refine wpList_nil ?_
      refine then_n ?_
      refine wp_cond_split (hs.ev rfl) (fun hc => ?_) (fun hc => ?_)
      · skip
        have hQ : tuQ f l = T9 := by rw [← tuQ_both, hT3, ha6, hT9]
        have hzQ := hc
        refine wp_seq ?_
        refine wp_region_lit ?_
        refine lstep (wpO_plain rfl (op_build hs none (qs := []) (v := At .u8 32 (fun _ => 0)) rfl rfl rfl rfl (fun _ => by kernel_rfl) rfl fun ac hs => ?_))
        refine lstep (wpO_plain rfl (op_store hs 1 (vs := (tab .u8 32 (fun _ => 0))) rfl rfl rfl rfl rfl Try.sizeOf30 (by kernel_rfl) tab_length' (tab_one _ _ _) tab_leA wr_tab fun w hs => ?_))
        refine lstep (wpO_plain rfl (op_assign hs none rfl rfl rfl rfl fun ac hs => ?_))
        refine lstep (wpO_plain rfl (op_assign hs none rfl rfl rfl rfl fun ac hs => ?_))
        refine wpList_nil ?_
        refine then_n ?_
        refine wp_ret ?_
        refine then_r ?_
        exact bodyPost_ret (res3 rfl (rv_c hs 1 (v := At .u8 32 (fun _ => 0)) rfl rfl Try.isAgg30 Try.sizeOf30 ldv_tab) (rv_t hs rfl) (rv_t hs rfl)) hs.defers ⟨(), by obtain ⟨h1, h2, h3⟩ := tu_no (inner := f) (root := l) (fun h => by have := h.2.2; rw [hQ, hzQ] at this; cases this); rw [h1, ← hq, h2, ← he, h3]; first | done | rfl, hs.bel rfl, okl0⟩
      · skip
        have hQ : tuQ f l = T9 := by rw [← tuQ_both, hT3, ha6, hT9]
        have hok : tuOk f l := ⟨by rw [hT3]; exact Bool.eq_false_iff.2 hq5, hyr, by rw [hQ]; exact hc⟩
        refine wp_skip ?_
        refine then_n ?_
        refine wp_seq ?_
        replace hs : St 41 ⟨w0, [], [(true, .cel (.slice ad l.length c) l.length (bcs l))], Z, noX⟩ [(4, true, .pointer (some ⟨g2, 0, none⟩)), (5, true, .bool false), (6, true, .int .i64 0), (10, true, .pointer (some ⟨g10, 0, none⟩))] [(true, g1, 30, (tab .u8 32 f)), (true, g2, 30, (tab .u8 32 (fun _ => 0))), (true, g4, 41, (PVl (px T3) (py T3) (pz T3))), (true, g8, 24, (Wl a6)), (true, g10, 41, (PVl (px T9) (py T9) (pz T9)))] ac _ := hs.re ⟨rfl, rfl, rfl, rfl, trivial⟩
        refine region_inv [([], [1, 3, 4, 5, 6, 7]), ([0], [3, 4, 5, 6, 7]), ([], [3, 4, 5, 6, 7]), ([0, 1, 2], [4, 5, 6, 7]), ([0, 1, 2, 3], [6, 7]), ([0, 1, 2, 3], [6, 7]), ([0, 1, 2, 3, 4, 5], [7]), ([0, 1, 2, 3, 4, 5, 6], [])] (fun L ac w => St 41 ⟨w0, [], [(true, .cel (.slice ad l.length c) l.length (bcs l))], Z, noX⟩ [(36, L 0, PV (px T9) (py T9) (pz T9)), (37, L 1, At .u8 32 (by8 (px T9))), (38, L 2, PV (px T9) (py T9) (pz T9)), (39, L 3, .bool (evB T9)), (40, L 4, .bool (!(evB T9))), (5, L 6, .bool (!(evB T9))), (6, L 7, .int .i64 0), (4, true, .pointer (some ⟨g2, 0, none⟩)), (5, true, .bool false), (6, true, .int .i64 0), (10, true, .pointer (some ⟨g10, 0, none⟩))] [(true, g1, 30, (tab .u8 32 f)), (true, g2, 30, (cond (L 5) (tab .u8 32 (by8 (px T9))) (tab .u8 32 (fun _ => 0)))), (true, g4, 41, (PVl (px T3) (py T3) (pz T3))), (true, g8, 24, (Wl a6)), (true, g10, 41, (PVl (px T9) (py T9) (pz T9)))] ac w) (by kernel_rfl) (by kernel_rfl) ?_ ?_ ?_
        · exact hs.drew.skip.skip.skip.skip.skip.skip.skip
        · refine ⟨?_, ?_, ?_, ?_, ?_, ?_, ?_, ?_, trivial⟩
          · intro L ac w hJ
            have hs := hJ
            refine wpO_plain rfl (op_load hs (some 0) 4 (v := PV (px T9) (py T9) (pz T9)) rfl rfl rfl rfl Try.isAgg41 Try.sizeOf41 rfl rfl fun ac hs => ?_)
            exact hs
          · intro L ac w hJ
            have hs := hJ
            refine wpO_plain rfl (op_call (F := 11) hs (some 1) (v := At .u8 32 (by8 (px T9))) rfl rfl rfl rfl (Try.call11 _) (pbytes_c (px T9) (py T9) (pz T9) T9 (px_lt T9) (py_lt T9) (pt_back oT9)) rfl fun ac w hs => ?_)
            exact hs
          · intro L ac w hJ
            have hs := hJ
            refine wpO_plain rfl (op_load hs (some 2) 4 (v := PV (px T9) (py T9) (pz T9)) rfl rfl rfl rfl Try.isAgg41 Try.sizeOf41 rfl rfl fun ac hs => ?_)
            exact hs
          · intro L ac w hJ
            have hs := hJ
            refine wpO_plain rfl (op_call (F := 23) hs (some 3) (v := .bool (evB T9)) rfl rfl rfl rfl (Try.call23 _) (even_c (px T9) (py T9) (pz T9) T9 _ (px_lt T9) (py_lt T9) (pt_back oT9) rfl) rfl fun ac w hs => ?_)
            exact hs
          · intro L ac w hJ
            have hs := hJ
            refine wpO_plain rfl (op_un hs (some 4) (v := .bool (!(evB T9))) rfl rfl rfl (fun _ => rfl) rfl fun ac hs => ?_)
            exact hs
          · intro L ac w hJ
            have hs := hJ
            refine wpO_plain rfl (op_store hs 1 (vs := (tab .u8 32 (by8 (px T9)))) rfl rfl rfl rfl rfl Try.sizeOf30 (by kernel_rfl) tab_length' (tab_one _ _ _) tab_leA wr_tab fun w hs => ?_)
            exact hs
          · intro L ac w hJ
            have hs := hJ
            refine wpO_plain rfl (op_assign hs (some 5) rfl rfl rfl rfl fun ac hs => ?_)
            exact hs
          · intro L ac w hJ
            have hs := hJ
            refine wpO_plain rfl (op_assign hs (some 6) rfl rfl rfl rfl fun ac hs => ?_)
            exact hs
        intro ac w hJ
        replace hs : St 41 ⟨w0, [], [(true, .cel (.slice ad l.length c) l.length (bcs l))], Z, noX⟩ [(36, true, PV (px T9) (py T9) (pz T9)), (37, true, At .u8 32 (by8 (px T9))), (38, true, PV (px T9) (py T9) (pz T9)), (39, true, .bool (evB T9)), (40, true, .bool (!(evB T9))), (5, true, .bool (!(evB T9))), (6, true, .int .i64 0), (4, true, .pointer (some ⟨g2, 0, none⟩)), (5, true, .bool false), (6, true, .int .i64 0), (10, true, .pointer (some ⟨g10, 0, none⟩))] [(true, g1, 30, (tab .u8 32 f)), (true, g2, 30, (tab .u8 32 (by8 (px T9)))), (true, g4, 41, (PVl (px T3) (py T3) (pz T3))), (true, g8, 24, (Wl a6)), (true, g10, 41, (PVl (px T9) (py T9) (pz T9)))] ac w := hJ
        refine then_n ?_
        refine wp_ret ?_
        exact bodyPost_ret (res3 rfl (rv_c hs 1 (v := At .u8 32 (by8 (px T9))) rfl rfl Try.isAgg30 Try.sizeOf30 ldv_tab) (rv_t hs rfl) (rv_t hs rfl)) hs.defers ⟨(), by obtain ⟨h1, h2, h3⟩ := tu_yes (inner := f) (root := l) hok; rw [h1, ← hq, h2, ← he, h3, hQ]; first | done | rfl, hs.bel rfl, okl0⟩
theorem tsec_c (s : Nat) (ad : Option Addr) (nl c : Nat) (l : List UInt8) (x er : Nat) (hs0 : s < 2 ^ 256) (hlen : l.length ≤ 1000) (hx : tsV s l = x) (he : tsE s l = er) (w0 : World) (Z : Nat → Prop) (hl : ByV w0 Z (.slice ad nl c) l): Calls Try.prog 9 #[W s, .slice ad nl c] w0 fun e w' => Ret w0 Z (ρ := Unit) (fun r => .tuple #[W x, .int .i64 ((er : Nat) : Int)]) (fun r => []) e w' := by
  obtain rfl := byv_len hl
  refine enterS (n := 39) (args := [W s, .slice ad l.length c]) (S := [(true, .cel (.slice ad l.length c) l.length (bcs l))]) (Z := Z) Try.func9 rfl rfl (Nat.le_of_ble_eq_true rfl) (sokC hl sok0) rfl fun ac hs => ?_
  refine wp_seq ?_
  refine wp_region_lit ?_
  refine lstep (wpO_plain rfl (op_box hs none none (cs := (Wl s)) rfl rfl rfl rfl rfl rfl fun g1 ac w hs => ?_))
  refine lstep (wpO_plain rfl (op_alloc hs none none (cs := [.int .u64 0, .int .u64 0, .int .u64 0, .int .u64 0]) rfl rfl Try.zeroValue24 (by kernel_rfl) rfl rfl fun g2 ac w hs => ?_))
  refine lstep (wpO_plain rfl (op_assign hs none rfl rfl rfl rfl fun ac hs => ?_))
  refine wpList_nil ?_
  refine then_n ?_
  refine wp_seq ?_
  refine wp_region_lit ?_
  refine lstep (wpO_plain rfl (op_load hs none 0 (v := W s) rfl rfl rfl rfl Try.isAgg24 Try.sizeOf24 rfl rfl fun ac hs => ?_))
  obtain ⟨d3, hd3, ld3⟩ : ∃ z0, sD s = z0 ∧ z0 < 2 ^ 256 := ⟨_, rfl, sD_lt256 _⟩
  obtain ⟨er4, her4⟩ : ∃ z0, sE s = z0 := ⟨_, rfl⟩
  have ler4 := sE_le s
  rw [her4] at ler4
  refine lstep (wpO_plain rfl (op_call (F := 13) hs none (v := .tuple #[W d3, At .u8 32 (sK s), .int .i64 ((er4 : Nat) : Int)]) rfl rfl rfl rfl (Try.call13 _) (straight_c s d3 er4 hs0 hd3 her4) rfl fun ac w hs => ?_))
  refine lstep (wpO_plain rfl (op_move hs none rfl rfl rfl rfl fun ac hs => ?_))
  refine lstep (wpO_plain rfl (op_extract hs none rfl rfl rfl rfl rfl fun ac hs => ?_))
  refine lstep (wpO_plain rfl (op_extract hs none rfl rfl rfl rfl rfl fun ac hs => ?_))
  refine lstep (wpO_plain rfl (op_extract hs none rfl rfl rfl rfl rfl fun ac hs => ?_))
  refine lstep (wpO_plain rfl (op_alloc hs none none (cs := [.int .u64 0, .int .u64 0, .int .u64 0, .int .u64 0]) rfl rfl Try.zeroValue24 (by kernel_rfl) rfl rfl fun g5 ac w hs => ?_))
  refine lstep (wpO_plain rfl (op_alloc hs none none (cs := (tab .u8 32 (fun _ => 0))) rfl rfl Try.zeroValue30 (by kernel_rfl) rfl rfl fun g6 ac w hs => ?_))
  refine lstep (wpO_plain rfl (op_store hs 2 (vs := (Wl d3)) rfl rfl rfl rfl rfl Try.sizeOf24 rfl rfl rfl rfl rfl fun w hs => ?_))
  refine lstep (wpO_plain rfl (op_store hs 3 (vs := (tab .u8 32 (sK s))) rfl rfl rfl rfl rfl Try.sizeOf30 (by kernel_rfl) tab_length' (tab_one _ _ _) tab_leA wr_tab fun w hs => ?_))
  refine lstep (wpO_plain rfl (op_assign hs none rfl rfl rfl rfl fun ac hs => ?_))
  refine wpList_nil ?_
  refine then_n ?_
  refine wp_seq ?_
  refine wp_seq ?_
  replace hs : St 39 ⟨w0, [], [(true, .cel (.slice ad l.length c) l.length (bcs l))], Z, noX⟩ [(1, true, .slice ad l.length c), (4, true, .pointer (some ⟨g2, 0, none⟩)), (5, true, .int .i64 0), (6, true, .pointer (some ⟨g5, 0, none⟩)), (7, true, .pointer (some ⟨g6, 0, none⟩)), (8, true, .int .i64 ((er4 : Nat) : Int))] [(true, g1, 24, (Wl s)), (true, g2, 24, [.int .u64 0, .int .u64 0, .int .u64 0, .int .u64 0]), (true, g5, 24, (Wl d3)), (true, g6, 30, (tab .u8 32 (sK s)))] ac _ := hs.re ⟨rfl, rfl, rfl, rfl, rfl, rfl, trivial⟩
  refine wp_region_lit ?_
  refine lstep (wpO_plain rfl (op_move hs none rfl rfl rfl rfl fun ac hs => ?_))
  refine lstep (wpO_plain rfl (op_bin hs none (v := .bool (decide (er4 ≠ 0))) rfl rfl rfl rfl (fun _ => rfl) (bin_neqN (x := er4) (y := 0)) rfl fun ac hs => ?_))
  refine wpList_nil ?_
  refine then_n ?_
  refine wp_cond_split (hs.ev rfl) (fun hc => ?_) (fun hc => ?_)
  · skip
    have hp7 := of_decide_eq_true hc
    have hn0 : sE s ≠ 0 := by rw [her4]; simpa using hc
    refine wp_seq ?_
    refine wp_region_lit ?_
    refine lstep (wpO_plain rfl (op_build hs none (qs := []) (v := .agg #[.int .u64 0, .int .u64 0, .int .u64 0, .int .u64 0]) rfl rfl rfl rfl (fun _ => by kernel_rfl) rfl fun ac hs => ?_))
    refine lstep (wpO_plain rfl (op_move hs none rfl rfl rfl rfl fun ac hs => ?_))
    refine lstep (wpO_plain rfl (op_store hs 1 (vs := [.int .u64 0, .int .u64 0, .int .u64 0, .int .u64 0]) rfl rfl rfl rfl rfl Try.sizeOf24 rfl rfl rfl rfl rfl fun w hs => ?_))
    refine lstep (wpO_plain rfl (op_assign hs none rfl rfl rfl rfl fun ac hs => ?_))
    refine wpList_nil ?_
    refine then_n ?_
    refine wp_ret ?_
    refine then_r ?_
    exact bodyPost_ret (res2 rfl (rv_c hs 1 (v := .agg #[.int .u64 0, .int .u64 0, .int .u64 0, .int .u64 0]) rfl rfl Try.isAgg24 Try.sizeOf24 rfl) (rv_t hs rfl)) hs.defers ⟨(), by obtain ⟨h1, h2⟩ := ts_no (s := s) (root := l) (fun h => hn0 h.1); rw [← hx, h1, ← he, h2]; rw [show er4 = 1 from her4.symm.trans (sE_1 hn0).2]; first | done | rfl, hs.bel rfl, okl0⟩
  · skip
    have hp8 := of_decide_eq_false hc
    have hz0 : sE s = 0 := by rw [her4]; simpa using hc
    refine wp_skip ?_
    refine then_n ?_
    refine wp_seq ?_
    refine wp_region_lit ?_
    refine lstep (wpO_plain rfl (op_load hs none 3 (v := At .u8 32 (sK s)) rfl rfl rfl rfl Try.isAgg30 Try.sizeOf30 ldv_tab rfl fun ac hs => ?_))
    refine lstep (wpO_plain rfl (op_move hs none rfl rfl rfl rfl fun ac hs => ?_))
    obtain ⟨a9, ha9, la9⟩ : ∃ z0, rdN (tuB (sK s) l) = z0 ∧ z0 < 2 ^ 256 := ⟨_, rfl, rdN_lt _⟩
    obtain ⟨q10, hq10⟩ : ∃ z0, decide (pr (tuB (sK s) l) 0 32 < Nord) = z0 := ⟨_, rfl⟩
    refine lstep (wpO_plain rfl (op_callS (F := 24) (ρ := Unit) hs none none (v := fun r => .tuple #[W a9, .bool q10]) (E := fun r => []) (j := 0) rfl rfl rfl rfl (Try.call24 _) (fun hs => turning_c (sK s) ad l.length c l a9 q10 (fun j _ => sK_lt _ j) (show l.length ≤ 1000 by omega) ha9 hq10 _ _ (hs.all (k := 0) rfl rfl)) (fun _ => rfl) rfl rfl fun _ ac w hs => ?_))
    refine lstep (wpO_plain rfl (op_move hs none rfl rfl rfl rfl fun ac hs => ?_))
    refine lstep (wpO_plain rfl (op_extract hs none rfl rfl rfl rfl rfl fun ac hs => ?_))
    refine lstep (wpO_plain rfl (op_extract hs none rfl rfl rfl rfl rfl fun ac hs => ?_))
    refine lstep (wpO_plain rfl (op_alloc hs none none (cs := [.int .u64 0, .int .u64 0, .int .u64 0, .int .u64 0]) rfl rfl Try.zeroValue24 (by kernel_rfl) rfl rfl fun g11 ac w hs => ?_))
    refine lstep (wpO_plain rfl (op_store hs 4 (vs := (Wl a9)) rfl rfl rfl rfl rfl Try.sizeOf24 rfl rfl rfl rfl rfl fun w hs => ?_))
    refine lstep (wpO_plain rfl (op_assign hs none rfl rfl rfl rfl fun ac hs => ?_))
    refine wpList_nil ?_
    refine then_n ?_
    refine wp_seq ?_
    refine wp_seq ?_
    replace hs : St 39 ⟨w0, [], [(true, .cel (.slice ad l.length c) l.length (bcs l))], Z, noX⟩ [(4, true, .pointer (some ⟨g2, 0, none⟩)), (5, true, .int .i64 0), (6, true, .pointer (some ⟨g5, 0, none⟩)), (9, true, .pointer (some ⟨g11, 0, none⟩)), (10, true, .bool q10)] [(true, g1, 24, (Wl s)), (true, g2, 24, [.int .u64 0, .int .u64 0, .int .u64 0, .int .u64 0]), (true, g5, 24, (Wl d3)), (true, g6, 30, (tab .u8 32 (sK s))), (true, g11, 24, (Wl a9))] ac _ := hs.re ⟨rfl, rfl, rfl, rfl, rfl, trivial⟩
    refine wp_region_lit ?_
    refine lstep (wpO_plain rfl (op_move hs none rfl rfl rfl rfl fun ac hs => ?_))
    refine lstep (wpO_plain rfl (op_un hs none (v := .bool (!q10)) rfl rfl rfl (fun _ => rfl) rfl fun ac hs => ?_))
    refine wpList_nil ?_
    refine then_n ?_
    refine wp_cond_split (hs.ev rfl) (fun hc => ?_) (fun hc => ?_)
    · skip
      have hnr : ¬ pr (tuB (sK s) l) 0 32 < Nord := of_decide_eq_false (hq10.trans (by simpa using hc))
      refine wp_seq ?_
      refine wp_region_lit ?_
      refine lstep (wpO_plain rfl (op_build hs none (qs := []) (v := .agg #[.int .u64 0, .int .u64 0, .int .u64 0, .int .u64 0]) rfl rfl rfl rfl (fun _ => by kernel_rfl) rfl fun ac hs => ?_))
      refine lstep (wpO_plain rfl (op_store hs 1 (vs := [.int .u64 0, .int .u64 0, .int .u64 0, .int .u64 0]) rfl rfl rfl rfl rfl Try.sizeOf24 rfl rfl rfl rfl rfl fun w hs => ?_))
      refine lstep (wpO_plain rfl (op_assign hs none rfl rfl rfl rfl fun ac hs => ?_))
      refine wpList_nil ?_
      refine then_n ?_
      refine wp_ret ?_
      refine then_r ?_
      exact bodyPost_ret (res2 rfl (rv_c hs 1 (v := .agg #[.int .u64 0, .int .u64 0, .int .u64 0, .int .u64 0]) rfl rfl Try.isAgg24 Try.sizeOf24 rfl) (rv_t hs rfl)) hs.defers ⟨(), by obtain ⟨h1, h2⟩ := ts_no (s := s) (root := l) (fun h => hnr h.2.1); rw [← hx, h1, ← he, h2]; first | done | rfl, hs.bel rfl, okl0⟩
    · skip
      have hyr : pr (tuB (sK s) l) 0 32 < Nord := of_decide_eq_true (hq10.trans (by simpa using hc))
      refine wp_skip ?_
      refine then_n ?_
      refine wp_seq ?_
      refine wp_region_lit ?_
      refine lstep (wpO_plain rfl (op_load hs none 2 (v := W d3) rfl rfl rfl rfl Try.isAgg24 Try.sizeOf24 rfl rfl fun ac hs => ?_))
      refine lstep (wpO_plain rfl (op_load hs none 4 (v := W a9) rfl rfl rfl rfl Try.isAgg24 Try.sizeOf24 rfl rfl fun ac hs => ?_))
      obtain ⟨r12, hr12, lr12⟩ : ∃ z0, (d3 + a9) % Nord = z0 ∧ z0 < 2 ^ 256 := ⟨_, rfl, mN256 _⟩
      refine lstep (wpO_plain rfl (op_call (F := 15) hs none (v := W r12) rfl rfl rfl rfl (Try.call15 _) (sadd_c d3 a9 r12 ld3 la9 hr12) rfl fun ac w hs => ?_))
      refine lstep (wpO_plain rfl (op_alloc hs none none (cs := [.int .u64 0, .int .u64 0, .int .u64 0, .int .u64 0]) rfl rfl Try.zeroValue24 (by kernel_rfl) rfl rfl fun g13 ac w hs => ?_))
      refine lstep (wpO_plain rfl (op_store hs 5 (vs := (Wl r12)) rfl rfl rfl rfl rfl Try.sizeOf24 rfl rfl rfl rfl rfl fun w hs => ?_))
      refine wpList_nil ?_
      refine then_n ?_
      refine wp_seq ?_
      refine wp_seq ?_
      replace hs : St 39 ⟨w0, [], [(true, .cel (.slice ad l.length c) l.length (bcs l))], Z, noX⟩ [(4, true, .pointer (some ⟨g2, 0, none⟩)), (5, true, .int .i64 0), (11, true, .pointer (some ⟨g13, 0, none⟩))] [(true, g1, 24, (Wl s)), (true, g2, 24, [.int .u64 0, .int .u64 0, .int .u64 0, .int .u64 0]), (true, g5, 24, (Wl d3)), (true, g6, 30, (tab .u8 32 (sK s))), (true, g11, 24, (Wl a9)), (true, g13, 24, (Wl r12))] ac _ := hs.re ⟨rfl, rfl, rfl, trivial⟩
      refine wp_region_lit ?_
      refine lstep (wpO_plain rfl (op_load hs none 5 (v := W r12) rfl rfl rfl rfl Try.isAgg24 Try.sizeOf24 rfl rfl fun ac hs => ?_))
      refine lstep (wpO_plain rfl (op_build hs none (qs := []) (v := .agg #[.int .u64 0, .int .u64 0, .int .u64 0, .int .u64 0]) rfl rfl rfl rfl (fun _ => by kernel_rfl) rfl fun ac hs => ?_))
      refine lstep (wpO_plain rfl (op_bin hs none (v := .bool (decide (r12 = 0))) rfl rfl rfl rfl (fun w => run_eqGuard_agg w .eql 24 _ _ _ _ Try.eqGuardType24) (eqlW r12 0 lr12 (by decide) _ rfl) rfl fun ac hs => ?_))
      refine wpList_nil ?_
      refine then_n ?_
      refine wp_cond_split (hs.ev rfl) (fun hc => ?_) (fun hc => ?_)
      · skip
        have hp14 := of_decide_eq_true hc
        have hQ : tsQ s l = r12 := by unfold tsQ; rw [hd3, ha9, hr12]
        have hq0 := of_decide_eq_true hc
        refine wp_seq ?_
        refine wp_region_lit ?_
        refine lstep (wpO_plain rfl (op_load hs none 5 (v := W r12) rfl rfl rfl rfl Try.isAgg24 Try.sizeOf24 rfl rfl fun ac hs => ?_))
        refine lstep (wpO_plain rfl (op_store hs 1 (vs := (Wl r12)) rfl rfl rfl rfl rfl Try.sizeOf24 rfl rfl rfl rfl rfl fun w hs => ?_))
        refine lstep (wpO_plain rfl (op_assign hs none rfl rfl rfl rfl fun ac hs => ?_))
        refine wpList_nil ?_
        refine then_n ?_
        refine wp_ret ?_
        refine then_r ?_
        exact bodyPost_ret (res2 rfl (rv_c hs 1 (v := W r12) rfl rfl Try.isAgg24 Try.sizeOf24 rfl) (rv_t hs rfl)) hs.defers ⟨(), by obtain ⟨h1, h2⟩ := ts_no (s := s) (root := l) (fun h => h.2.2 (by rw [hQ]; exact hq0)); rw [← hx, h1, ← he, h2]; rw [show r12 = 0 from hq0]; first | done | rfl, hs.bel rfl, okl0⟩
      · skip
        have hp15 := of_decide_eq_false hc
        have hQ : tsQ s l = r12 := by unfold tsQ; rw [hd3, ha9, hr12]
        have hok : tsOk s l := ⟨hz0, hyr, by rw [hQ]; exact of_decide_eq_false hc⟩
        refine wp_skip ?_
        refine then_n ?_
        refine wp_seq ?_
        refine wp_region_lit ?_
        refine lstep (wpO_plain rfl (op_load hs none 5 (v := W r12) rfl rfl rfl rfl Try.isAgg24 Try.sizeOf24 rfl rfl fun ac hs => ?_))
        refine lstep (wpO_plain rfl (op_store hs 1 (vs := (Wl r12)) rfl rfl rfl rfl rfl Try.sizeOf24 rfl rfl rfl rfl rfl fun w hs => ?_))
        refine lstep (wpO_plain rfl (op_assign hs none rfl rfl rfl rfl fun ac hs => ?_))
        refine wpList_nil ?_
        refine then_n ?_
        refine wp_ret ?_
        exact bodyPost_ret (res2 rfl (rv_c hs 1 (v := W r12) rfl rfl Try.isAgg24 Try.sizeOf24 rfl) (rv_t hs rfl)) hs.defers ⟨(), by obtain ⟨h1, h2⟩ := ts_yes (s := s) (root := l) hok; rw [← hx, h1, ← he, h2, hQ]; first | done | rfl, hs.bel rfl, okl0⟩
theorem verify_c (f : Nat → Nat) (ad : Option Addr) (nl c : Nat) (l : List UInt8) (ag : Option Addr) (nm cg : Nat) (m : List UInt8) (q : Bool) (hf : ∀ j, j < 32 → f j < 256) (hlen : l.length ≤ 1000) (hlem : m.length ≤ 1000) (hq : verB f l m = q) (w0 : World) (Z : Nat → Prop) (hl : ByV w0 Z (.slice ad nl c) l) (hm : ByV w0 Z (.slice ag nm cg) m): Calls Try.prog 8 #[At .u8 32 f, .slice ad nl c, .slice ag nm cg] w0 fun e w' => Ret w0 Z (ρ := Unit) (fun r => .bool q) (fun r => []) e w' := by
  obtain rfl := byv_len hl
  obtain rfl := byv_len hm
  refine enterS (n := 57) (args := [At .u8 32 f, .slice ad l.length c, .slice ag m.length cg]) (S := [(true, .cel (.slice ad l.length c) l.length (bcs l)), (true, .cel (.slice ag m.length cg) m.length (bcs m))]) (Z := Z) Try.func8 rfl rfl (Nat.le_of_ble_eq_true rfl) (sokC hl (sokC hm sok0)) rfl fun ac hs => ?_
  refine wp_seq ?_
  refine wp_region_lit ?_
  refine lstep (wpO_plain rfl (op_box hs none none (cs := (tab .u8 32 f)) rfl rfl rfl rfl rfl rfl fun g1 ac w hs => ?_))
  refine lstep (wpO_plain rfl (op_assign hs none rfl rfl rfl rfl fun ac hs => ?_))
  refine wpList_nil ?_
  refine then_n ?_
  refine wp_seq ?_
  refine wp_region_lit ?_
  refine lstep (wpO_plain rfl (op_load hs none 0 (v := At .u8 32 f) rfl rfl rfl rfl Try.isAgg30 Try.sizeOf30 ldv_tab rfl fun ac hs => ?_))
  obtain ⟨T2, hT2, oT2⟩ := mkLift (pr f 0 32)
  refine lstep (wpO_plain rfl (op_call (F := 19) hs none (v := .tuple #[PV (px T2) (py T2) (pz T2), .bool (!pz T2)]) rfl rfl rfl rfl (Try.call19 _) (lift14_c f T2 hf hT2) rfl fun ac w hs => ?_))
  refine lstep (wpO_plain rfl (op_move hs none rfl rfl rfl rfl fun ac hs => ?_))
  refine lstep (wpO_plain rfl (op_extract hs none rfl rfl rfl rfl rfl fun ac hs => ?_))
  refine lstep (wpO_plain rfl (op_extract hs none rfl rfl rfl rfl rfl fun ac hs => ?_))
  refine lstep (wpO_plain rfl (op_alloc hs none none (cs := (PVl 0 0 false)) rfl rfl Try.zeroValue41 (by kernel_rfl) rfl rfl fun g3 ac w hs => ?_))
  refine lstep (wpO_plain rfl (op_store hs 1 (vs := (PVl (px T2) (py T2) (pz T2))) rfl rfl rfl rfl rfl Try.sizeOf41 rfl rfl rfl rfl rfl fun w hs => ?_))
  refine lstep (wpO_plain rfl (op_assign hs none rfl rfl rfl rfl fun ac hs => ?_))
  refine wpList_nil ?_
  refine then_n ?_
  refine wp_seq ?_
  refine wp_seq ?_
  by_cases hq4 : pz T2 = true
  · skip
    replace hs := hs.re (fs' := [(0, true, At .u8 32 f), (1, true, .slice ad l.length c), (2, true, .slice ag m.length cg), (3, true, .pointer (some ⟨g1, 0, none⟩)), (6, true, .bool false), (14, true, At .u8 32 f), (15, true, .tuple #[PV (px T2) (py T2) (pz T2), .bool (!pz T2)]), (13, true, .tuple #[PV (px T2) (py T2) (pz T2), .bool (!pz T2)]), (16, true, PV (px T2) (py T2) (pz T2)), (17, true, .bool (!pz T2)), (7, true, .pointer (some ⟨g3, 0, none⟩)), (8, true, .bool false)]) ⟨rfl, rfl, rfl, rfl, rfl, rfl, rfl, rfl, rfl, rfl, rfl, congrArg some (congrArg Value.bool (by rw [hq4]; rfl)), trivial⟩
    replace hs : St 57 ⟨w0, [], [(true, .cel (.slice ad l.length c) l.length (bcs l)), (true, .cel (.slice ag m.length cg) m.length (bcs m))], Z, noX⟩ [(1, true, .slice ad l.length c), (2, true, .slice ag m.length cg), (3, true, .pointer (some ⟨g1, 0, none⟩)), (6, true, .bool false), (7, true, .pointer (some ⟨g3, 0, none⟩)), (8, true, .bool false)] [(true, g1, 30, (tab .u8 32 f)), (true, g3, 41, (PVl (px T2) (py T2) (pz T2)))] ac _ := hs.re ⟨rfl, rfl, rfl, rfl, rfl, rfl, trivial⟩
    refine wp_region_lit ?_
    refine lstep (wpO_plain rfl (op_move hs none rfl rfl rfl rfl fun ac hs => ?_))
    refine lstep (wpO_plain rfl (op_un hs none (v := .bool true) rfl rfl rfl (fun _ => rfl) rfl fun ac hs => ?_))
    refine lstep (wpO_plain rfl (op_move hs none rfl rfl rfl rfl fun ac hs => ?_))
    refine lstep (wpO_out hs none rfl rfl (.inl rfl) rfl rfl fun ac hs => ?_)
    refine lstep (wpO_out hs none rfl rfl (.inl rfl) rfl rfl fun ac hs => ?_)
    refine lstep (wpO_out hs none rfl rfl (.inl rfl) rfl rfl fun ac hs => ?_)
    refine lstep (wpO_plain rfl (op_pickT hs none rfl rfl rfl rfl rfl fun ac hs => ?_))
    refine wpList_nil ?_
    refine then_n ?_
    refine wp_cond_true (hs.ev rfl) ?_
    refine wp_seq ?_
    refine wp_region_lit ?_
    refine lstep (wpO_plain rfl (op_assign hs none rfl rfl rfl rfl fun ac hs => ?_))
    refine wpList_nil ?_
    refine then_n ?_
    refine wp_ret ?_
    refine then_r ?_
    exact bodyPost_ret (res1 rfl (rv_t hs rfl)) hs.defers ⟨(), by rw [← hq, verB_1 (.inl (by rw [hT2]; exact hq4))], hs.bel rfl, okl0⟩
  · skip
    replace hs := hs.re (fs' := [(0, true, At .u8 32 f), (1, true, .slice ad l.length c), (2, true, .slice ag m.length cg), (3, true, .pointer (some ⟨g1, 0, none⟩)), (6, true, .bool false), (14, true, At .u8 32 f), (15, true, .tuple #[PV (px T2) (py T2) (pz T2), .bool (!pz T2)]), (13, true, .tuple #[PV (px T2) (py T2) (pz T2), .bool (!pz T2)]), (16, true, PV (px T2) (py T2) (pz T2)), (17, true, .bool (!pz T2)), (7, true, .pointer (some ⟨g3, 0, none⟩)), (8, true, .bool true)]) ⟨rfl, rfl, rfl, rfl, rfl, rfl, rfl, rfl, rfl, rfl, rfl, congrArg some (congrArg Value.bool (by rw [Bool.eq_false_iff.2 hq4]; rfl)), trivial⟩
    by_cases hq5 : m.length = 64
    · skip
      replace hs : St 57 ⟨w0, [], [(true, .cel (.slice ad l.length c) l.length (bcs l)), (true, .cel (.slice ag m.length cg) m.length (bcs m))], Z, noX⟩ [(1, true, .slice ad l.length c), (2, true, .slice ag m.length cg), (3, true, .pointer (some ⟨g1, 0, none⟩)), (6, true, .bool false), (7, true, .pointer (some ⟨g3, 0, none⟩)), (8, true, .bool true)] [(true, g1, 30, (tab .u8 32 f)), (true, g3, 41, (PVl (px T2) (py T2) (pz T2)))] ac _ := hs.re ⟨rfl, rfl, rfl, rfl, rfl, rfl, trivial⟩
      refine wp_region_lit ?_
      refine lstep (wpO_plain rfl (op_move hs none rfl rfl rfl rfl fun ac hs => ?_))
      refine lstep (wpO_plain rfl (op_un hs none (v := .bool false) rfl rfl rfl (fun _ => rfl) rfl fun ac hs => ?_))
      refine lstep (wpO_plain rfl (op_move hs none rfl rfl rfl rfl fun ac hs => ?_))
      refine lstep (wpO_in hs rfl rfl rfl (op_move hs none rfl rfl rfl rfl fun ac hs => ?_))
      refine lstep (wpO_in hs rfl rfl rfl (op_blt hs none (v := .int .i64 ((m.length : Nat) : Int)) rfl rfl rfl (blt_len Try.underlying25) rfl fun ac hs => ?_))
      refine lstep (wpO_in hs rfl rfl rfl (op_bin hs none (v := .bool false) rfl rfl rfl rfl (fun _ => rfl) (fun w => dF (fun hh => hh hq5) (bin_neqN (x := m.length) (y := 64) w)) rfl fun ac hs => ?_))
      refine lstep (wpO_plain rfl (op_pickF hs none rfl rfl rfl rfl rfl fun ac hs => ?_))
      refine wpList_nil ?_
      refine then_n ?_
      refine wp_cond_false (hs.ev rfl) ?_
      refine wp_skip ?_
      refine then_n ?_
      refine wp_seq ?_
      replace hs : St 57 ⟨w0, [], [(true, .cel (.slice ad l.length c) l.length (bcs l)), (true, .cel (.slice ag m.length cg) m.length (bcs m))], Z, noX⟩ [(1, true, .slice ad l.length c), (2, true, .slice ag m.length cg), (3, true, .pointer (some ⟨g1, 0, none⟩)), (6, true, .bool false), (7, true, .pointer (some ⟨g3, 0, none⟩)), (8, true, .bool true)] [(true, g1, 30, (tab .u8 32 f)), (true, g3, 41, (PVl (px T2) (py T2) (pz T2)))] ac _ := hs.re ⟨rfl, rfl, rfl, rfl, rfl, rfl, trivial⟩
      refine wp_region_lit ?_
      refine lstep (wpO_plain rfl (op_move hs none rfl rfl rfl rfl fun ac hs => ?_))
      refine lstep (wpO_plain rfl (op_sliceR hs none none 1 0 32 (N' := (m.take 32).length) (cs' := bcs (m.take 32)) rfl rfl rfl rfl (.inl ⟨rfl, rfl⟩) (.inr ⟨_, _, rfl, rfl⟩) Try.underlying25 Try.sizeOf5 (show 0 ≤ 32 by omega) (show 32 ≤ m.length by omega) (len_hi (show 32 ≤ m.length by omega)) bcs_hi rfl rfl fun ac hs => ?_))
      refine lstep (wpO_plain rfl (op_s2ap hs none 2 (M := 32) rfl rfl rfl rfl Try.underlying30 (by decide) (show 32 ≤ (m.take 32).length by first | omega | ((try simp only [List.length_drop, List.length_take, List.length_append, List.length_cons, List.length_nil]); omega)) rfl fun ac hs => ?_))
      refine lstep (wpO_plain rfl (op_loadC hs none 2 (u := At .u8 32 (byt (m.take 32))) rfl rfl rfl rfl Try.isAgg30 Try.sizeOf30 (by decide) (ldv_byt (show (m.take 32).length = 32 by first | omega | ((try simp only [List.length_drop, List.length_take, List.length_append, List.length_cons, List.length_nil]); omega))) rfl fun ac hs => ?_))
      refine lstep (wpO_plain rfl (op_alloc hs none none (cs := (tab .u8 32 (fun _ => 0))) rfl rfl Try.zeroValue30 (by kernel_rfl) rfl rfl fun g6 ac w hs => ?_))
      refine lstep (wpO_plain rfl (op_store hs 2 (vs := (tab .u8 32 (byt (m.take 32)))) rfl rfl rfl rfl rfl Try.sizeOf30 (by kernel_rfl) tab_length' (tab_one _ _ _) tab_leA wr_tab fun w hs => ?_))
      refine wpList_nil ?_
      refine then_n ?_
      refine wp_seq ?_
      replace hs : St 57 ⟨w0, [], [(true, .cel (.slice ad l.length c) l.length (bcs l)), (true, .cel (.slice ag m.length cg) m.length (bcs m)), (true, .cel (.slice (vsa ag cg 1 0) ((m.take 32).length) (cg - 0)) ((m.take 32).length) (bcs (m.take 32)))], Z, noX⟩ [(1, true, .slice ad l.length c), (2, true, .slice ag m.length cg), (3, true, .pointer (some ⟨g1, 0, none⟩)), (6, true, .bool false), (7, true, .pointer (some ⟨g3, 0, none⟩)), (8, true, .bool true), (9, true, .pointer (some ⟨g6, 0, none⟩))] [(true, g1, 30, (tab .u8 32 f)), (true, g3, 41, (PVl (px T2) (py T2) (pz T2))), (true, g6, 30, (tab .u8 32 (byt (m.take 32))))] ac _ := hs.re ⟨rfl, rfl, rfl, rfl, rfl, rfl, rfl, trivial⟩
      refine wp_region_lit ?_
      refine lstep (wpO_plain rfl (op_move hs none rfl rfl rfl rfl fun ac hs => ?_))
      refine lstep (wpO_plain rfl (op_sliceR hs none none 1 32 m.length (N' := (m.drop 32).length) (cs' := bcs (m.drop 32)) rfl rfl rfl rfl (.inr ⟨_, _, rfl, rfl⟩) (.inl ⟨rfl, rfl⟩) Try.underlying25 Try.sizeOf5 (show 32 ≤ m.length by omega) (show m.length ≤ m.length by omega) len_lo bcs_lo rfl rfl fun ac hs => ?_))
      refine lstep (wpO_plain rfl (op_s2ap hs none 3 (M := 32) rfl rfl rfl rfl Try.underlying30 (by decide) (show 32 ≤ (m.drop 32).length by first | omega | ((try simp only [List.length_drop, List.length_take, List.length_append, List.length_cons, List.length_nil]); omega)) rfl fun ac hs => ?_))
      refine lstep (wpO_plain rfl (op_loadC hs none 3 (u := At .u8 32 (byt (m.drop 32))) rfl rfl rfl rfl Try.isAgg30 Try.sizeOf30 (by decide) (ldv_byt (show (m.drop 32).length = 32 by first | omega | ((try simp only [List.length_drop, List.length_take, List.length_append, List.length_cons, List.length_nil]); omega))) rfl fun ac hs => ?_))
      obtain ⟨a7, ha7, la7⟩ : ∃ z0, rdN (byt (m.drop 32)) = z0 ∧ z0 < 2 ^ 256 := ⟨_, rfl, rdN_lt _⟩
      obtain ⟨q8, hq8⟩ : ∃ z0, decide (pr (byt (m.drop 32)) 0 32 < Nord) = z0 := ⟨_, rfl⟩
      refine lstep (wpO_plain rfl (op_call (F := 20) hs none (v := .tuple #[W a7, .bool q8]) rfl rfl rfl rfl (Try.call20 _) (sread_c (byt (m.drop 32)) a7 q8 (fun j _ => byt_lt _ j) ha7 hq8) rfl fun ac w hs => ?_))
      refine lstep (wpO_plain rfl (op_move hs none rfl rfl rfl rfl fun ac hs => ?_))
      refine lstep (wpO_plain rfl (op_extract hs none rfl rfl rfl rfl rfl fun ac hs => ?_))
      refine lstep (wpO_plain rfl (op_extract hs none rfl rfl rfl rfl rfl fun ac hs => ?_))
      refine lstep (wpO_plain rfl (op_alloc hs none none (cs := [.int .u64 0, .int .u64 0, .int .u64 0, .int .u64 0]) rfl rfl Try.zeroValue24 (by kernel_rfl) rfl rfl fun g9 ac w hs => ?_))
      refine lstep (wpO_plain rfl (op_store hs 3 (vs := (Wl a7)) rfl rfl rfl rfl rfl Try.sizeOf24 rfl rfl rfl rfl rfl fun w hs => ?_))
      refine lstep (wpO_plain rfl (op_assign hs none rfl rfl rfl rfl fun ac hs => ?_))
      refine wpList_nil ?_
      refine then_n ?_
      refine wp_seq ?_
      refine wp_seq ?_
      replace hs : St 57 ⟨w0, [], [(true, .cel (.slice ad l.length c) l.length (bcs l)), (true, .cel (.slice ag m.length cg) m.length (bcs m)), (true, .cel (.slice (vsa ag cg 1 0) ((m.take 32).length) (cg - 0)) ((m.take 32).length) (bcs (m.take 32))), (true, .cel (.slice (vsa ag cg 1 32) ((m.drop 32).length) (cg - 32)) ((m.drop 32).length) (bcs (m.drop 32)))], Z, noX⟩ [(1, true, .slice ad l.length c), (3, true, .pointer (some ⟨g1, 0, none⟩)), (6, true, .bool false), (7, true, .pointer (some ⟨g3, 0, none⟩)), (8, true, .bool q8), (9, true, .pointer (some ⟨g6, 0, none⟩)), (10, true, .pointer (some ⟨g9, 0, none⟩))] [(true, g1, 30, (tab .u8 32 f)), (true, g3, 41, (PVl (px T2) (py T2) (pz T2))), (true, g6, 30, (tab .u8 32 (byt (m.take 32)))), (true, g9, 24, (Wl a7))] ac _ := hs.re ⟨rfl, rfl, rfl, rfl, rfl, rfl, rfl, trivial⟩
      refine wp_region_lit ?_
      refine lstep (wpO_plain rfl (op_move hs none rfl rfl rfl rfl fun ac hs => ?_))
      refine lstep (wpO_plain rfl (op_un hs none (v := .bool (!q8)) rfl rfl rfl (fun _ => rfl) rfl fun ac hs => ?_))
      refine wpList_nil ?_
      refine then_n ?_
      refine wp_cond_split (hs.ev rfl) (fun hc => ?_) (fun hc => ?_)
      · skip
        have hnr : ¬ pr (byt (m.drop 32)) 0 32 < Nord := of_decide_eq_false (hq8.trans (by simpa using hc))
        refine wp_seq ?_
        refine wp_region_lit ?_
        refine lstep (wpO_plain rfl (op_assign hs none rfl rfl rfl rfl fun ac hs => ?_))
        refine wpList_nil ?_
        refine then_n ?_
        refine wp_ret ?_
        refine then_r ?_
        exact bodyPost_ret (res1 rfl (rv_t hs rfl)) hs.defers ⟨(), by rw [← hq, verB_2 hnr], hs.bel rfl, okl0⟩
      · skip
        have hyr : pr (byt (m.drop 32)) 0 32 < Nord := of_decide_eq_true (hq8.trans (by simpa using hc))
        refine wp_skip ?_
        refine then_n ?_
        refine wp_seq ?_
        refine wp_region_lit ?_
        refine lstep (wpO_plain rfl (op_load hs none 2 (v := At .u8 32 (byt (m.take 32))) rfl rfl rfl rfl Try.isAgg30 Try.sizeOf30 ldv_tab rfl fun ac hs => ?_))
        refine lstep (wpO_plain rfl (op_load hs none 0 (v := At .u8 32 f) rfl rfl rfl rfl Try.isAgg30 Try.sizeOf30 ldv_tab rfl fun ac hs => ?_))
        refine lstep (wpO_plain rfl (op_move hs none rfl rfl rfl rfl fun ac hs => ?_))
        obtain ⟨e10, he10, le10⟩ : ∃ z0, chal (byt (m.take 32)) f l = z0 ∧ z0 < 2 ^ 256 := ⟨_, rfl, chal_lt _ _ _⟩
        refine lstep (wpO_plain rfl (op_callS (F := 17) (ρ := Unit) hs none none (v := fun r => W e10) (E := fun r => []) (j := 0) rfl rfl rfl rfl (Try.call17 _) (fun hs => chal_c (byt (m.take 32)) f ad l.length c l e10 (fun j _ => byt_lt _ j) hf (show l.length ≤ 1000 by omega) he10 _ _ (hs.all (k := 0) rfl rfl)) (fun _ => rfl) rfl rfl fun _ ac w hs => ?_))
        obtain ⟨r11, hr11, lr11⟩ : ∃ z0, (Nord - e10 % Nord) % Nord = z0 ∧ z0 < 2 ^ 256 := ⟨_, rfl, mN256 _⟩
        refine lstep (wpO_plain rfl (op_call (F := 21) hs none (v := W r11) rfl rfl rfl rfl (Try.call21 _) (sneg_c e10 r11 le10 hr11) rfl fun ac w hs => ?_))
        refine lstep (wpO_plain rfl (op_alloc hs none none (cs := [.int .u64 0, .int .u64 0, .int .u64 0, .int .u64 0]) rfl rfl Try.zeroValue24 (by kernel_rfl) rfl rfl fun g12 ac w hs => ?_))
        refine lstep (wpO_plain rfl (op_store hs 4 (vs := (Wl r11)) rfl rfl rfl rfl rfl Try.sizeOf24 rfl rfl rfl rfl rfl fun w hs => ?_))
        refine wpList_nil ?_
        refine then_n ?_
        refine wp_seq ?_
        replace hs : St 57 ⟨w0, [], [(true, .cel (.slice ad l.length c) l.length (bcs l)), (true, .cel (.slice ag m.length cg) m.length (bcs m)), (true, .cel (.slice (vsa ag cg 1 0) ((m.take 32).length) (cg - 0)) ((m.take 32).length) (bcs (m.take 32))), (true, .cel (.slice (vsa ag cg 1 32) ((m.drop 32).length) (cg - 32)) ((m.drop 32).length) (bcs (m.drop 32)))], Z, noX⟩ [(6, true, .bool false), (7, true, .pointer (some ⟨g3, 0, none⟩)), (9, true, .pointer (some ⟨g6, 0, none⟩)), (10, true, .pointer (some ⟨g9, 0, none⟩)), (11, true, .pointer (some ⟨g12, 0, none⟩))] [(true, g1, 30, (tab .u8 32 f)), (true, g3, 41, (PVl (px T2) (py T2) (pz T2))), (true, g6, 30, (tab .u8 32 (byt (m.take 32)))), (true, g9, 24, (Wl a7)), (true, g12, 24, (Wl r11))] ac _ := hs.re ⟨rfl, rfl, rfl, rfl, rfl, trivial⟩
        obtain ⟨T13, hT13, oT13⟩ := mkBoth a7 r11 Gp_on oT2
        refine region_inv [([], [4, 6]), ([], [4, 6]), ([], [4, 6]), ([], [4, 6]), ([0, 1, 2, 3], [6]), ([], [6]), ([0, 1, 2, 3, 4, 5], [])] (fun L ac w => ∃ (g14 : Nat), St 57 ⟨w0, [], [(true, .cel (.slice ad l.length c) l.length (bcs l)), (true, .cel (.slice ag m.length cg) m.length (bcs m)), (true, .cel (.slice (vsa ag cg 1 0) ((m.take 32).length) (cg - 0)) ((m.take 32).length) (bcs (m.take 32))), (true, .cel (.slice (vsa ag cg 1 32) ((m.drop 32).length) (cg - 32)) ((m.drop 32).length) (bcs (m.drop 32)))], Z, noX⟩ [(44, L 0, W a7), (45, L 1, PV (px Gp) (py Gp) (pz Gp)), (46, L 2, W r11), (47, L 3, PV (px T2) (py T2) (pz T2)), (48, L 4, PV (px T13) (py T13) (pz T13)), (12, L 5, .pointer (some ⟨g14, 0, none⟩)), (6, true, .bool false), (7, true, .pointer (some ⟨g3, 0, none⟩)), (9, true, .pointer (some ⟨g6, 0, none⟩)), (10, true, .pointer (some ⟨g9, 0, none⟩)), (11, true, .pointer (some ⟨g12, 0, none⟩))] [(true, g1, 30, (tab .u8 32 f)), (true, g3, 41, (PVl (px T2) (py T2) (pz T2))), (true, g6, 30, (tab .u8 32 (byt (m.take 32)))), (true, g9, 24, (Wl a7)), (true, g12, 24, (Wl r11)), (L 5, g14, 41, (cond (L 6) (PVl (px T13) (py T13) (pz T13)) (PVl 0 0 false)))] ac w) (by kernel_rfl) (by kernel_rfl) ?_ ?_ ?_
        · exact ⟨0, hs.drew.skip.skip.skip.skip.skip.skip.pad⟩
        · refine ⟨?_, ?_, ?_, ?_, ?_, ?_, ?_, trivial⟩
          · intro L ac w hJ
            obtain ⟨g14, hs⟩ := hJ
            refine wpO_plain rfl (op_load hs (some 0) 3 (v := W a7) rfl rfl rfl rfl Try.isAgg24 Try.sizeOf24 rfl rfl fun ac hs => ?_)
            exact ⟨g14, hs⟩
          · intro L ac w hJ
            obtain ⟨g14, hs⟩ := hJ
            refine wpO_plain rfl (op_call (F := 12) hs (some 1) (v := PV (px Gp) (py Gp) (pz Gp)) rfl rfl rfl rfl (Try.call12 _) base_c rfl fun ac w hs => ?_)
            exact ⟨g14, hs⟩
          · intro L ac w hJ
            obtain ⟨g14, hs⟩ := hJ
            refine wpO_plain rfl (op_load hs (some 2) 4 (v := W r11) rfl rfl rfl rfl Try.isAgg24 Try.sizeOf24 rfl rfl fun ac hs => ?_)
            exact ⟨g14, hs⟩
          · intro L ac w hJ
            obtain ⟨g14, hs⟩ := hJ
            refine wpO_plain rfl (op_load hs (some 3) 1 (v := PV (px T2) (py T2) (pz T2)) rfl rfl rfl rfl Try.isAgg41 Try.sizeOf41 rfl rfl fun ac hs => ?_)
            exact ⟨g14, hs⟩
          · intro L ac w hJ
            obtain ⟨g14, hs⟩ := hJ
            refine wpO_plain rfl (op_call (F := 22) hs (some 4) (v := PV (px T13) (py T13) (pz T13)) rfl rfl rfl rfl (Try.call22 _) (both_c a7 (px Gp) (py Gp) (pz Gp) r11 (px T2) (py T2) (pz T2) Gp T2 T13 la7 (px_lt Gp) (py_lt Gp) lr11 (px_lt T2) (py_lt T2) (pt_back Gp_on) (pt_back oT2) hT13) rfl fun ac w hs => ?_)
            exact ⟨g14, hs⟩
          · intro L ac w hJ
            obtain ⟨g14, hs⟩ := hJ
            refine wpO_plain rfl (op_alloc hs (some 5) (some 5) (cs := (PVl 0 0 false)) rfl rfl Try.zeroValue41 (by kernel_rfl) rfl rfl fun g14 ac w hs => ?_)
            exact ⟨g14, hs⟩
          · intro L ac w hJ
            obtain ⟨g14, hs⟩ := hJ
            refine wpO_plain rfl (op_store hs 5 (vs := (PVl (px T13) (py T13) (pz T13))) rfl rfl rfl rfl rfl Try.sizeOf41 rfl rfl rfl rfl rfl fun w hs => ?_)
            exact ⟨g14, hs⟩
        intro ac w hJ
        obtain ⟨g14, hs⟩ := hJ
        replace hs : St 57 ⟨w0, [], [(true, .cel (.slice ad l.length c) l.length (bcs l)), (true, .cel (.slice ag m.length cg) m.length (bcs m)), (true, .cel (.slice (vsa ag cg 1 0) ((m.take 32).length) (cg - 0)) ((m.take 32).length) (bcs (m.take 32))), (true, .cel (.slice (vsa ag cg 1 32) ((m.drop 32).length) (cg - 32)) ((m.drop 32).length) (bcs (m.drop 32)))], Z, noX⟩ [(44, true, W a7), (45, true, PV (px Gp) (py Gp) (pz Gp)), (46, true, W r11), (47, true, PV (px T2) (py T2) (pz T2)), (48, true, PV (px T13) (py T13) (pz T13)), (12, true, .pointer (some ⟨g14, 0, none⟩)), (6, true, .bool false), (7, true, .pointer (some ⟨g3, 0, none⟩)), (9, true, .pointer (some ⟨g6, 0, none⟩)), (10, true, .pointer (some ⟨g9, 0, none⟩)), (11, true, .pointer (some ⟨g12, 0, none⟩))] [(true, g1, 30, (tab .u8 32 f)), (true, g3, 41, (PVl (px T2) (py T2) (pz T2))), (true, g6, 30, (tab .u8 32 (byt (m.take 32)))), (true, g9, 24, (Wl a7)), (true, g12, 24, (Wl r11)), (true, g14, 41, (PVl (px T13) (py T13) (pz T13)))] ac w := hs
        refine then_n ?_
        refine wp_seq ?_
        by_cases hq15 : evB T13 = true
        · skip
          have hQ : vPt f l m = T13 := by unfold vPt ngN; rw [hT2, ha7, he10, hr11, hT13]
          have hv : verB f l m = (evB T13 && eqF 32 (by8 (px T13)) (byt (m.take 32))) := by rw [verB_3 (by rw [hT2]; exact Bool.eq_false_iff.2 hq4) hq5 hyr]; unfold vRest; rw [hQ]
          replace hs : St 57 ⟨w0, [], [(true, .cel (.slice ad l.length c) l.length (bcs l)), (true, .cel (.slice ag m.length cg) m.length (bcs m)), (true, .cel (.slice (vsa ag cg 1 0) ((m.take 32).length) (cg - 0)) ((m.take 32).length) (bcs (m.take 32))), (true, .cel (.slice (vsa ag cg 1 32) ((m.drop 32).length) (cg - 32)) ((m.drop 32).length) (bcs (m.drop 32)))], Z, noX⟩ [(6, true, .bool false), (9, true, .pointer (some ⟨g6, 0, none⟩)), (12, true, .pointer (some ⟨g14, 0, none⟩))] [(true, g1, 30, (tab .u8 32 f)), (true, g3, 41, (PVl (px T2) (py T2) (pz T2))), (true, g6, 30, (tab .u8 32 (byt (m.take 32)))), (true, g9, 24, (Wl a7)), (true, g12, 24, (Wl r11)), (true, g14, 41, (PVl (px T13) (py T13) (pz T13)))] ac _ := hs.re ⟨rfl, rfl, rfl, trivial⟩
          refine region_inv [([], [1, 2, 3, 4, 5, 6, 7, 8]), ([0], [2, 3, 4, 5, 6, 7, 8]), ([0, 1], [3, 4, 5, 6, 7, 8]), ([0, 1, 2], [4, 6, 7, 8]), ([0, 1, 2, 3], [6, 7, 8]), ([0, 1, 2], [6, 7, 8]), ([0, 1, 2, 3, 4, 5], [7, 8]), ([0, 1, 2, 3, 4, 5, 6], [8]), ([0, 1, 2, 3, 4, 5, 6, 7], [])] (fun L ac w => St 57 ⟨w0, [], [(true, .cel (.slice ad l.length c) l.length (bcs l)), (true, .cel (.slice ag m.length cg) m.length (bcs m)), (true, .cel (.slice (vsa ag cg 1 0) ((m.take 32).length) (cg - 0)) ((m.take 32).length) (bcs (m.take 32))), (true, .cel (.slice (vsa ag cg 1 32) ((m.drop 32).length) (cg - 32)) ((m.drop 32).length) (bcs (m.drop 32)))], Z, noX⟩ [(49, L 0, PV (px T13) (py T13) (pz T13)), (50, L 1, .bool true), (51, L 2, .bool true), (52, L 3, PV (px T13) (py T13) (pz T13)), (53, L 4, At .u8 32 (by8 (px T13))), (54, L 5, At .u8 32 (byt (m.take 32))), (55, L 6, .bool (eqF 32 (by8 (px T13)) (byt (m.take 32)))), (56, L 7, .bool (eqF 32 (by8 (px T13)) (byt (m.take 32)))), (6, L 8, .bool (eqF 32 (by8 (px T13)) (byt (m.take 32)))), (6, true, .bool false), (9, true, .pointer (some ⟨g6, 0, none⟩)), (12, true, .pointer (some ⟨g14, 0, none⟩))] [(true, g1, 30, (tab .u8 32 f)), (true, g3, 41, (PVl (px T2) (py T2) (pz T2))), (true, g6, 30, (tab .u8 32 (byt (m.take 32)))), (true, g9, 24, (Wl a7)), (true, g12, 24, (Wl r11)), (true, g14, 41, (PVl (px T13) (py T13) (pz T13)))] ac w) (by kernel_rfl) (by kernel_rfl) ?_ ?_ ?_
          · exact hs.drew.skip.skip.skip.skip.skip.skip.skip.skip.skip
          · refine ⟨?_, ?_, ?_, ?_, ?_, ?_, ?_, ?_, ?_, trivial⟩
            · intro L ac w hJ
              have hs := hJ
              refine wpO_plain rfl (op_load hs (some 0) 5 (v := PV (px T13) (py T13) (pz T13)) rfl rfl rfl rfl Try.isAgg41 Try.sizeOf41 rfl rfl fun ac hs => ?_)
              exact hs
            · intro L ac w hJ
              have hs := hJ
              refine wpO_plain rfl (op_call (F := 23) hs (some 1) (v := .bool true) rfl rfl rfl rfl (Try.call23 _) (even_c (px T13) (py T13) (pz T13) T13 true (px_lt T13) (py_lt T13) (pt_back oT13) hq15) rfl fun ac w hs => ?_)
              exact hs
            · intro L ac w hJ
              have hs := hJ
              refine wpO_plain rfl (op_move hs (some 2) rfl rfl rfl rfl fun ac hs => ?_)
              exact hs
            · intro L ac w hJ
              have hs := hJ
              refine wpO_in hs rfl rfl rfl (op_load hs (some 3) 5 (v := PV (px T13) (py T13) (pz T13)) rfl rfl rfl rfl Try.isAgg41 Try.sizeOf41 rfl rfl fun ac hs => ?_)
              exact hs
            · intro L ac w hJ
              have hs := hJ
              refine wpO_in hs rfl rfl rfl (op_call (F := 11) hs (some 4) (v := At .u8 32 (by8 (px T13))) rfl rfl rfl rfl (Try.call11 _) (pbytes_c (px T13) (py T13) (pz T13) T13 (px_lt T13) (py_lt T13) (pt_back oT13)) rfl fun ac w hs => ?_)
              exact hs
            · intro L ac w hJ
              have hs := hJ
              refine wpO_in hs rfl rfl rfl (op_load hs (some 5) 2 (v := At .u8 32 (byt (m.take 32))) rfl rfl rfl rfl Try.isAgg30 Try.sizeOf30 ldv_tab rfl fun ac hs => ?_)
              exact hs
            · intro L ac w hJ
              have hs := hJ
              refine wpO_in hs rfl rfl rfl (op_bin hs (some 6) (v := .bool (eqF 32 (by8 (px T13)) (byt (m.take 32)))) rfl rfl rfl rfl (fun w => run_eqGuard_agg w .eql 30 _ _ _ _ Try.eqGuardType30) (eqlAtD Try.underlying30 Try.underlying5 inf_u8_5 (by kernel_rfl) Try.isAgg5 rfl) rfl fun ac hs => ?_)
              exact hs
            · intro L ac w hJ
              have hs := hJ
              refine wpO_plain rfl (op_pickT hs (some 7) rfl rfl rfl rfl rfl fun ac hs => ?_)
              exact hs
            · intro L ac w hJ
              have hs := hJ
              refine wpO_plain rfl (op_assign hs (some 8) rfl rfl rfl rfl fun ac hs => ?_)
              exact hs
          intro ac w hJ
          replace hs : St 57 ⟨w0, [], [(true, .cel (.slice ad l.length c) l.length (bcs l)), (true, .cel (.slice ag m.length cg) m.length (bcs m)), (true, .cel (.slice (vsa ag cg 1 0) ((m.take 32).length) (cg - 0)) ((m.take 32).length) (bcs (m.take 32))), (true, .cel (.slice (vsa ag cg 1 32) ((m.drop 32).length) (cg - 32)) ((m.drop 32).length) (bcs (m.drop 32)))], Z, noX⟩ [(49, true, PV (px T13) (py T13) (pz T13)), (50, true, .bool true), (51, true, .bool true), (52, true, PV (px T13) (py T13) (pz T13)), (53, true, At .u8 32 (by8 (px T13))), (54, true, At .u8 32 (byt (m.take 32))), (55, true, .bool (eqF 32 (by8 (px T13)) (byt (m.take 32)))), (56, true, .bool (eqF 32 (by8 (px T13)) (byt (m.take 32)))), (6, true, .bool (eqF 32 (by8 (px T13)) (byt (m.take 32)))), (6, true, .bool false), (9, true, .pointer (some ⟨g6, 0, none⟩)), (12, true, .pointer (some ⟨g14, 0, none⟩))] [(true, g1, 30, (tab .u8 32 f)), (true, g3, 41, (PVl (px T2) (py T2) (pz T2))), (true, g6, 30, (tab .u8 32 (byt (m.take 32)))), (true, g9, 24, (Wl a7)), (true, g12, 24, (Wl r11)), (true, g14, 41, (PVl (px T13) (py T13) (pz T13)))] ac w := hJ
          refine then_n ?_
          refine wp_ret ?_
          exact bodyPost_ret (res1 rfl (rv_t hs rfl)) hs.defers ⟨(), by rw [← hq, hv, hq15]; rfl, hs.bel rfl, okl0⟩
        · skip
          have hQ : vPt f l m = T13 := by unfold vPt ngN; rw [hT2, ha7, he10, hr11, hT13]
          have hv : verB f l m = (evB T13 && eqF 32 (by8 (px T13)) (byt (m.take 32))) := by rw [verB_3 (by rw [hT2]; exact Bool.eq_false_iff.2 hq4) hq5 hyr]; unfold vRest; rw [hQ]
          replace hs : St 57 ⟨w0, [], [(true, .cel (.slice ad l.length c) l.length (bcs l)), (true, .cel (.slice ag m.length cg) m.length (bcs m)), (true, .cel (.slice (vsa ag cg 1 0) ((m.take 32).length) (cg - 0)) ((m.take 32).length) (bcs (m.take 32))), (true, .cel (.slice (vsa ag cg 1 32) ((m.drop 32).length) (cg - 32)) ((m.drop 32).length) (bcs (m.drop 32)))], Z, noX⟩ [(6, true, .bool false), (9, true, .pointer (some ⟨g6, 0, none⟩)), (12, true, .pointer (some ⟨g14, 0, none⟩))] [(true, g1, 30, (tab .u8 32 f)), (true, g3, 41, (PVl (px T2) (py T2) (pz T2))), (true, g6, 30, (tab .u8 32 (byt (m.take 32)))), (true, g9, 24, (Wl a7)), (true, g12, 24, (Wl r11)), (true, g14, 41, (PVl (px T13) (py T13) (pz T13)))] ac _ := hs.re ⟨rfl, rfl, rfl, trivial⟩
          refine region_inv [([], [1, 2, 3, 4, 5, 6, 7, 8]), ([0], [2, 3, 4, 5, 6, 7, 8]), ([0, 1], [3, 4, 5, 6, 7, 8]), ([0, 1, 2], [4, 6, 7, 8]), ([0, 1, 2, 3], [6, 7, 8]), ([0, 1, 2], [6, 7, 8]), ([0, 1, 2, 3, 4, 5], [7, 8]), ([0, 1, 2, 3, 4, 5, 6], [8]), ([0, 1, 2, 3, 4, 5, 6, 7], [])] (fun L ac w => St 57 ⟨w0, [], [(true, .cel (.slice ad l.length c) l.length (bcs l)), (true, .cel (.slice ag m.length cg) m.length (bcs m)), (true, .cel (.slice (vsa ag cg 1 0) ((m.take 32).length) (cg - 0)) ((m.take 32).length) (bcs (m.take 32))), (true, .cel (.slice (vsa ag cg 1 32) ((m.drop 32).length) (cg - 32)) ((m.drop 32).length) (bcs (m.drop 32)))], Z, noX⟩ [(49, L 0, PV (px T13) (py T13) (pz T13)), (50, L 1, .bool false), (51, L 2, .bool false), (52, L 3, undef), (53, L 4, undef), (54, L 5, undef), (55, L 6, undef), (56, L 7, .bool false), (6, L 8, .bool false), (6, true, .bool false), (9, true, .pointer (some ⟨g6, 0, none⟩)), (12, true, .pointer (some ⟨g14, 0, none⟩))] [(true, g1, 30, (tab .u8 32 f)), (true, g3, 41, (PVl (px T2) (py T2) (pz T2))), (true, g6, 30, (tab .u8 32 (byt (m.take 32)))), (true, g9, 24, (Wl a7)), (true, g12, 24, (Wl r11)), (true, g14, 41, (PVl (px T13) (py T13) (pz T13)))] ac w) (by kernel_rfl) (by kernel_rfl) ?_ ?_ ?_
          · exact hs.drew.skip.skip.skip.skip.skip.skip.skip.skip.skip
          · refine ⟨?_, ?_, ?_, ?_, ?_, ?_, ?_, ?_, ?_, trivial⟩
            · intro L ac w hJ
              have hs := hJ
              refine wpO_plain rfl (op_load hs (some 0) 5 (v := PV (px T13) (py T13) (pz T13)) rfl rfl rfl rfl Try.isAgg41 Try.sizeOf41 rfl rfl fun ac hs => ?_)
              exact hs
            · intro L ac w hJ
              have hs := hJ
              refine wpO_plain rfl (op_call (F := 23) hs (some 1) (v := .bool false) rfl rfl rfl rfl (Try.call23 _) (even_c (px T13) (py T13) (pz T13) T13 false (px_lt T13) (py_lt T13) (pt_back oT13) (Bool.eq_false_iff.2 hq15)) rfl fun ac w hs => ?_)
              exact hs
            · intro L ac w hJ
              have hs := hJ
              refine wpO_plain rfl (op_move hs (some 2) rfl rfl rfl rfl fun ac hs => ?_)
              exact hs
            · intro L ac w hJ
              have hs := hJ
              refine wpO_out hs (some 3) rfl rfl (.inl rfl) rfl rfl fun ac hs => ?_
              exact hs
            · intro L ac w hJ
              have hs := hJ
              refine wpO_out hs (some 4) rfl rfl (.inl rfl) rfl rfl fun ac hs => ?_
              exact hs
            · intro L ac w hJ
              have hs := hJ
              refine wpO_out hs (some 5) rfl rfl (.inl rfl) rfl rfl fun ac hs => ?_
              exact hs
            · intro L ac w hJ
              have hs := hJ
              refine wpO_out hs (some 6) rfl rfl (.inl rfl) rfl rfl fun ac hs => ?_
              exact hs
            · intro L ac w hJ
              have hs := hJ
              refine wpO_plain rfl (op_pickF hs (some 7) rfl rfl rfl rfl rfl fun ac hs => ?_)
              exact hs
            · intro L ac w hJ
              have hs := hJ
              refine wpO_plain rfl (op_assign hs (some 8) rfl rfl rfl rfl fun ac hs => ?_)
              exact hs
          intro ac w hJ
          replace hs : St 57 ⟨w0, [], [(true, .cel (.slice ad l.length c) l.length (bcs l)), (true, .cel (.slice ag m.length cg) m.length (bcs m)), (true, .cel (.slice (vsa ag cg 1 0) ((m.take 32).length) (cg - 0)) ((m.take 32).length) (bcs (m.take 32))), (true, .cel (.slice (vsa ag cg 1 32) ((m.drop 32).length) (cg - 32)) ((m.drop 32).length) (bcs (m.drop 32)))], Z, noX⟩ [(49, true, PV (px T13) (py T13) (pz T13)), (50, true, .bool false), (51, true, .bool false), (52, true, undef), (53, true, undef), (54, true, undef), (55, true, undef), (56, true, .bool false), (6, true, .bool false), (6, true, .bool false), (9, true, .pointer (some ⟨g6, 0, none⟩)), (12, true, .pointer (some ⟨g14, 0, none⟩))] [(true, g1, 30, (tab .u8 32 f)), (true, g3, 41, (PVl (px T2) (py T2) (pz T2))), (true, g6, 30, (tab .u8 32 (byt (m.take 32)))), (true, g9, 24, (Wl a7)), (true, g12, 24, (Wl r11)), (true, g14, 41, (PVl (px T13) (py T13) (pz T13)))] ac w := hJ
          refine then_n ?_
          refine wp_ret ?_
          exact bodyPost_ret (res1 rfl (rv_t hs rfl)) hs.defers ⟨(), by rw [← hq, hv, Bool.eq_false_iff.2 hq15]; rfl, hs.bel rfl, okl0⟩
    · skip
      replace hs : St 57 ⟨w0, [], [(true, .cel (.slice ad l.length c) l.length (bcs l)), (true, .cel (.slice ag m.length cg) m.length (bcs m))], Z, noX⟩ [(1, true, .slice ad l.length c), (2, true, .slice ag m.length cg), (3, true, .pointer (some ⟨g1, 0, none⟩)), (6, true, .bool false), (7, true, .pointer (some ⟨g3, 0, none⟩)), (8, true, .bool true)] [(true, g1, 30, (tab .u8 32 f)), (true, g3, 41, (PVl (px T2) (py T2) (pz T2)))] ac _ := hs.re ⟨rfl, rfl, rfl, rfl, rfl, rfl, trivial⟩
      refine wp_region_lit ?_
      refine lstep (wpO_plain rfl (op_move hs none rfl rfl rfl rfl fun ac hs => ?_))
      refine lstep (wpO_plain rfl (op_un hs none (v := .bool false) rfl rfl rfl (fun _ => rfl) rfl fun ac hs => ?_))
      refine lstep (wpO_plain rfl (op_move hs none rfl rfl rfl rfl fun ac hs => ?_))
      refine lstep (wpO_in hs rfl rfl rfl (op_move hs none rfl rfl rfl rfl fun ac hs => ?_))
      refine lstep (wpO_in hs rfl rfl rfl (op_blt hs none (v := .int .i64 ((m.length : Nat) : Int)) rfl rfl rfl (blt_len Try.underlying25) rfl fun ac hs => ?_))
      refine lstep (wpO_in hs rfl rfl rfl (op_bin hs none (v := .bool true) rfl rfl rfl rfl (fun _ => rfl) (fun w => dT hq5 (bin_neqN (x := m.length) (y := 64) w)) rfl fun ac hs => ?_))
      refine lstep (wpO_plain rfl (op_pickF hs none rfl rfl rfl rfl rfl fun ac hs => ?_))
      refine wpList_nil ?_
      refine then_n ?_
      refine wp_cond_true (hs.ev rfl) ?_
      refine wp_seq ?_
      replace hs : St 57 ⟨w0, [], [(true, .cel (.slice ad l.length c) l.length (bcs l)), (true, .cel (.slice ag m.length cg) m.length (bcs m))], Z, noX⟩ [(1, true, .slice ad l.length c), (2, true, .slice ag m.length cg), (3, true, .pointer (some ⟨g1, 0, none⟩)), (6, true, .bool false), (7, true, .pointer (some ⟨g3, 0, none⟩)), (8, true, .bool true)] [(true, g1, 30, (tab .u8 32 f)), (true, g3, 41, (PVl (px T2) (py T2) (pz T2)))] ac _ := hs.re ⟨rfl, rfl, rfl, rfl, rfl, rfl, trivial⟩
      refine wp_region_lit ?_
      refine lstep (wpO_plain rfl (op_assign hs none rfl rfl rfl rfl fun ac hs => ?_))
      refine wpList_nil ?_
      refine then_n ?_
      refine wp_ret ?_
      refine then_r ?_
      exact bodyPost_ret (res1 rfl (rv_t hs rfl)) hs.defers ⟨(), by rw [← hq, verB_1 (.inr hq5)], hs.bel rfl, okl0⟩
end Go.Proofs.Ytejbajgpiecjcaa

/- The laws of schnorr. -/
namespace Go.Proofs.Ytejbajgpiecjcaa
open Go.RowKit
set_option maxRecDepth 10000
set_option maxHeartbeats 1000000

theorem alive_c  (w0 : World) : Calls Try.prog 5 #[] w0 fun e w' => e = .returned (.bool true) ∧ Below w0.heap.size w0 w' := by
  refine enter (n := 27) (args := []) Try.func5 rfl rfl (Nat.le_of_ble_eq_true rfl) fun ac hs => ?_
  refine wp_seq ?_
  refine wp_region_lit ?_
  refine lstep (wpO_plain rfl (op_assign hs none rfl rfl rfl rfl fun ac hs => ?_))
  refine wpList_nil ?_
  refine then_n ?_
  refine wp_seq ?_
  refine wp_region_lit ?_
  refine lstep (wpO_plain rfl (op_build hs none (qs := [(0, .int .u64 1)]) (v := .agg #[.int .u64 1, .int .u64 0, .int .u64 0, .int .u64 0]) rfl rfl rfl rfl (fun _ => by kernel_rfl) rfl fun ac hs => ?_))
  refine lstep (wpO_plain rfl (op_call (F := 7) hs none (v := .tuple #[At .u8 32 (sK 1), .int .i64 0]) rfl rfl rfl rfl (Try.call7 _) (key_c 1 0 (by decide) (by decide)) rfl fun ac w hs => ?_))
  refine lstep (wpO_plain rfl (op_move hs none rfl rfl rfl rfl fun ac hs => ?_))
  refine lstep (wpO_plain rfl (op_extract hs none rfl rfl rfl rfl rfl fun ac hs => ?_))
  refine lstep (wpO_plain rfl (op_extract hs none rfl rfl rfl rfl rfl fun ac hs => ?_))
  refine lstep (wpO_plain rfl (op_alloc hs none none (cs := (tab .u8 32 (fun _ => 0))) rfl rfl Try.zeroValue30 (by kernel_rfl) rfl rfl fun g1 ac w hs => ?_))
  refine lstep (wpO_plain rfl (op_store hs 0 (vs := (tab .u8 32 (sK 1))) rfl rfl rfl rfl rfl Try.sizeOf30 (by kernel_rfl) tab_length' (tab_one _ _ _) tab_leA wr_tab fun w hs => ?_))
  refine lstep (wpO_plain rfl (op_assign hs none rfl rfl rfl rfl fun ac hs => ?_))
  refine wpList_nil ?_
  refine then_n ?_
  refine wp_seq ?_
  replace hs : St 27 w0 [(0, true, .bool false), (1, true, .pointer (some ⟨g1, 0, none⟩)), (2, true, .int .i64 0)] [(true, g1, 30, (tab .u8 32 (sK 1)))] ac _ := hs.re ⟨rfl, rfl, rfl, trivial⟩
  refine wp_region_lit ?_
  refine lstep (wpO_plain rfl (op_build hs none (qs := []) (v := .agg #[.int .u64 0, .int .u64 0, .int .u64 0, .int .u64 0]) rfl rfl rfl rfl (fun _ => by kernel_rfl) rfl fun ac hs => ?_))
  refine lstep (wpO_plain rfl (op_call (F := 7) hs none (v := .tuple #[At .u8 32 (sK 0), .int .i64 1]) rfl rfl rfl rfl (Try.call7 _) (key_c 0 1 (by decide) (by decide)) rfl fun ac w hs => ?_))
  refine lstep (wpO_plain rfl (op_move hs none rfl rfl rfl rfl fun ac hs => ?_))
  refine lstep (wpO_plain rfl (op_extract hs none rfl rfl rfl rfl rfl fun ac hs => ?_))
  refine lstep (wpO_plain rfl (op_extract hs none rfl rfl rfl rfl rfl fun ac hs => ?_))
  refine lstep (wpO_plain rfl (op_alloc hs none none (cs := (tab .u8 32 (fun _ => 0))) rfl rfl Try.zeroValue30 (by kernel_rfl) rfl rfl fun g2 ac w hs => ?_))
  refine lstep (wpO_plain rfl (op_store hs 1 (vs := (tab .u8 32 (sK 0))) rfl rfl rfl rfl rfl Try.sizeOf30 (by kernel_rfl) tab_length' (tab_one _ _ _) tab_leA wr_tab fun w hs => ?_))
  refine lstep (wpO_plain rfl (op_assign hs none rfl rfl rfl rfl fun ac hs => ?_))
  refine wpList_nil ?_
  refine then_n ?_
  refine wp_seq ?_
  replace hs : St 27 w0 [(0, true, .bool false), (1, true, .pointer (some ⟨g1, 0, none⟩)), (2, true, .int .i64 0), (4, true, .int .i64 1)] [(true, g1, 30, (tab .u8 32 (sK 1))), (true, g2, 30, (tab .u8 32 (sK 0)))] ac _ := hs.re ⟨rfl, rfl, rfl, rfl, trivial⟩
  refine region_inv [([], [1, 2, 3, 4, 5, 6, 7, 8, 9, 10, 11, 12]), ([0], [2, 3, 4, 5, 6, 7, 8, 9, 10, 11, 12]), ([0, 1], [3, 4, 5, 6, 7, 8, 9, 10, 11, 12]), ([0, 1, 2], [4, 5, 6, 7, 8, 9, 10, 11, 12]), ([0, 1, 2, 3], [5, 6, 7, 8, 9, 10, 11, 12]), ([0, 1, 2, 3, 4], [6, 7, 8, 9, 10, 11, 12]), ([0, 1, 2, 3, 4, 5], [7, 8, 9, 10, 11, 12]), ([0, 1, 2, 3, 4, 5, 6], [10, 11, 12]), ([0, 1, 2, 3, 4, 5, 6], [9, 10, 11, 12]), ([0, 1, 2, 3, 4, 5, 6, 8], [10, 11, 12]), ([0, 1, 2, 3, 4, 5, 6, 7, 8, 9], [11, 12]), ([0, 1, 2, 3, 4, 5, 6, 7, 8, 9, 10], [12]), ([0, 1, 2, 3, 4, 5, 6, 7, 8, 9, 10, 11], [])] (fun L ac w => St 27 w0 [(15, L 0, .int .i64 0), (16, L 1, .bool true), (17, L 2, .bool true), (18, L 3, .int .i64 1), (19, L 4, .bool true), (20, L 5, .bool true), (21, L 6, .bool true), (22, L 7, At .u8 32 (sK 1)), (23, L 8, PV (px Gp) (py Gp) (pz Gp)), (24, L 9, At .u8 32 (by8 (px Gp))), (25, L 10, .bool true), (26, L 11, .bool true), (0, L 12, .bool true), (0, true, .bool false), (1, true, .pointer (some ⟨g1, 0, none⟩)), (2, true, .int .i64 0), (4, true, .int .i64 1)] [(true, g1, 30, (tab .u8 32 (sK 1))), (true, g2, 30, (tab .u8 32 (sK 0)))] ac w) (by kernel_rfl) (by kernel_rfl) ?_ ?_ ?_
  · exact hs.drew.skip.skip.skip.skip.skip.skip.skip.skip.skip.skip.skip.skip.skip
  · refine ⟨?_, ?_, ?_, ?_, ?_, ?_, ?_, ?_, ?_, ?_, ?_, ?_, ?_, trivial⟩
    · intro L ac w hJ
      have hs := hJ
      refine wpO_plain rfl (op_move hs (some 0) rfl rfl rfl rfl fun ac hs => ?_)
      exact hs
    · intro L ac w hJ
      have hs := hJ
      refine wpO_plain rfl (op_bin hs (some 1) (v := .bool true) rfl rfl rfl rfl (fun _ => rfl) (fun _ => by kernel_rfl) rfl fun ac hs => ?_)
      exact hs
    · intro L ac w hJ
      have hs := hJ
      refine wpO_plain rfl (op_move hs (some 2) rfl rfl rfl rfl fun ac hs => ?_)
      exact hs
    · intro L ac w hJ
      have hs := hJ
      refine wpO_in hs rfl rfl rfl (op_move hs (some 3) rfl rfl rfl rfl fun ac hs => ?_)
      exact hs
    · intro L ac w hJ
      have hs := hJ
      refine wpO_in hs rfl rfl rfl (op_bin hs (some 4) (v := .bool true) rfl rfl rfl rfl (fun _ => rfl) (fun _ => by kernel_rfl) rfl fun ac hs => ?_)
      exact hs
    · intro L ac w hJ
      have hs := hJ
      refine wpO_plain rfl (op_pickT hs (some 5) rfl rfl rfl rfl rfl fun ac hs => ?_)
      exact hs
    · intro L ac w hJ
      have hs := hJ
      refine wpO_plain rfl (op_move hs (some 6) rfl rfl rfl rfl fun ac hs => ?_)
      exact hs
    · intro L ac w hJ
      have hs := hJ
      refine wpO_in hs rfl rfl rfl (op_load hs (some 7) 0 (v := At .u8 32 (sK 1)) rfl rfl rfl rfl Try.isAgg30 Try.sizeOf30 ldv_tab rfl fun ac hs => ?_)
      exact hs
    · intro L ac w hJ
      have hs := hJ
      refine wpO_in hs rfl rfl rfl (op_call (F := 12) hs (some 8) (v := PV (px Gp) (py Gp) (pz Gp)) rfl rfl rfl rfl (Try.call12 _) base_c rfl fun ac w hs => ?_)
      exact hs
    · intro L ac w hJ
      have hs := hJ
      refine wpO_in hs rfl rfl rfl (op_call (F := 11) hs (some 9) (v := At .u8 32 (by8 (px Gp))) rfl rfl rfl rfl (Try.call11 _) (pbytes_c (px Gp) (py Gp) (pz Gp) Gp (px_lt Gp) (py_lt Gp) (pt_back Gp_on)) rfl fun ac w hs => ?_)
      exact hs
    · intro L ac w hJ
      have hs := hJ
      refine wpO_in hs rfl rfl rfl (op_bin hs (some 10) (v := .bool true) rfl rfl rfl rfl (fun w => run_eqGuard_agg w .eql 30 _ _ _ _ Try.eqGuardType30) (eqlAt Try.underlying30 Try.underlying5 inf_u8_5 (by kernel_rfl) Try.isAgg5 (fun j _ => by rw [sK_one])) rfl fun ac hs => ?_)
      exact hs
    · intro L ac w hJ
      have hs := hJ
      refine wpO_plain rfl (op_pickT hs (some 11) rfl rfl rfl rfl rfl fun ac hs => ?_)
      exact hs
    · intro L ac w hJ
      have hs := hJ
      refine wpO_plain rfl (op_assign hs (some 12) rfl rfl rfl rfl fun ac hs => ?_)
      exact hs
  intro ac w hJ
  replace hs : St 27 w0 [(15, true, .int .i64 0), (16, true, .bool true), (17, true, .bool true), (18, true, .int .i64 1), (19, true, .bool true), (20, true, .bool true), (21, true, .bool true), (22, true, At .u8 32 (sK 1)), (23, true, PV (px Gp) (py Gp) (pz Gp)), (24, true, At .u8 32 (by8 (px Gp))), (25, true, .bool true), (26, true, .bool true), (0, true, .bool true), (0, true, .bool false), (1, true, .pointer (some ⟨g1, 0, none⟩)), (2, true, .int .i64 0), (4, true, .int .i64 1)] [(true, g1, 30, (tab .u8 32 (sK 1))), (true, g2, 30, (tab .u8 32 (sK 0)))] ac w := hJ
  refine then_n ?_
  refine wp_ret ?_
  exact bodyPost_ret (res1 rfl (rv_t hs rfl)) hs.defers ⟨rfl, (hs.bel rfl)⟩
theorem signs_law (s k : Nat) (ad : Option Addr) (c : Nat) (l : List UInt8) (hs0 : s < 2 ^ 256) (hk0 : k < 2 ^ 256) (w0 : World) (Z : Nat → Prop) (hl : ByV w0 Z (.slice ad l.length c) l): Calls Try.prog 3 #[W s, W k, .slice ad l.length c] w0 fun e w' => Ret w0 Z (ρ := Unit) (fun r => .bool true) (fun r => []) e w' := by
  refine enterS (n := 63) (args := [W s, W k, .slice ad l.length c]) (S := [(true, .cel (.slice ad l.length c) l.length (bcs l))]) (Z := Z) Try.func3 rfl rfl (Nat.le_of_ble_eq_true rfl) (sokC hl sok0) rfl fun ac hs => ?_
  refine wp_seq ?_
  refine wp_region_lit ?_
  refine lstep (wpO_plain rfl (op_box hs none none (cs := (Wl s)) rfl rfl rfl rfl rfl rfl fun g1 ac w hs => ?_))
  refine lstep (wpO_plain rfl (op_box hs none none (cs := (Wl k)) rfl rfl rfl rfl rfl rfl fun g2 ac w hs => ?_))
  refine lstep (wpO_plain rfl (op_assign hs none rfl rfl rfl rfl fun ac hs => ?_))
  refine wpList_nil ?_
  refine then_n ?_
  refine wp_seq ?_
  refine wp_seq ?_
  refine wp_region_lit ?_
  refine lstep (wpO_plain rfl (op_move hs none rfl rfl rfl rfl fun ac hs => ?_))
  refine lstep (wpO_plain rfl (op_blt hs none (v := .int .i64 ((l.length : Nat) : Int)) rfl rfl rfl (blt_len Try.underlying25) rfl fun ac hs => ?_))
  refine lstep (wpO_plain rfl (op_bin hs none (v := .bool (decide (200 < l.length))) rfl rfl rfl rfl (fun _ => rfl) (bin_gtrN (x := l.length) (y := 200)) rfl fun ac hs => ?_))
  refine wpList_nil ?_
  refine then_n ?_
  refine wp_cond_split (hs.ev rfl) (fun hc => ?_) (fun hc => ?_)
  · skip
    have hp3 := of_decide_eq_true hc
    refine wp_seq ?_
    replace hs : St 63 ⟨w0, [], [(true, .cel (.slice ad l.length c) l.length (bcs l))], Z, noX⟩ [(2, true, .slice ad l.length c), (3, true, .pointer (some ⟨g1, 0, none⟩)), (4, true, .pointer (some ⟨g2, 0, none⟩)), (6, true, .bool false)] [(true, g1, 24, (Wl s)), (true, g2, 24, (Wl k))] ac _ := hs.re ⟨rfl, rfl, rfl, rfl, trivial⟩
    refine wp_region_lit ?_
    refine lstep (wpO_plain rfl (op_call (F := 5) hs none (v := .bool true) rfl rfl rfl rfl (Try.call5 _) alive_c rfl fun ac w hs => ?_))
    refine lstep (wpO_plain rfl (op_assign hs none rfl rfl rfl rfl fun ac hs => ?_))
    refine wpList_nil ?_
    refine then_n ?_
    refine wp_ret ?_
    refine then_r ?_
    exact bodyPost_ret (res1 rfl (rv_t hs rfl)) hs.defers ⟨(), rfl, hs.bel rfl, okl0⟩
  · skip
    have hp4 := of_decide_eq_false hc
    refine wp_skip ?_
    refine then_n ?_
    refine wp_seq ?_
    replace hs : St 63 ⟨w0, [], [(true, .cel (.slice ad l.length c) l.length (bcs l))], Z, noX⟩ [(2, true, .slice ad l.length c), (3, true, .pointer (some ⟨g1, 0, none⟩)), (4, true, .pointer (some ⟨g2, 0, none⟩)), (6, true, .bool false)] [(true, g1, 24, (Wl s)), (true, g2, 24, (Wl k))] ac _ := hs.re ⟨rfl, rfl, rfl, rfl, trivial⟩
    refine wp_region_lit ?_
    refine lstep (wpO_plain rfl (op_load hs none 0 (v := W s) rfl rfl rfl rfl Try.isAgg24 Try.sizeOf24 rfl rfl fun ac hs => ?_))
    refine lstep (wpO_plain rfl (op_load hs none 1 (v := W k) rfl rfl rfl rfl Try.isAgg24 Try.sizeOf24 rfl rfl fun ac hs => ?_))
    refine lstep (wpO_plain rfl (op_move hs none rfl rfl rfl rfl fun ac hs => ?_))
    obtain ⟨b5, hb5⟩ : ∃ z0, sgB s k l = z0 := ⟨_, rfl⟩
    obtain ⟨er6, her6⟩ : ∃ z0, sgE s k = z0 := ⟨_, rfl⟩
    have lb5 := sgB_len s k l
    rw [hb5] at lb5
    refine lstep (wpO_plain rfl (op_callS (F := 6) (ρ := Option Addr × Nat) hs none none (v := fun r => .tuple #[.slice r.1 b5.length r.2, .int .i64 ((er6 : Nat) : Int)]) (E := fun r => [.cel (.slice r.1 b5.length r.2) b5.length (bcs b5)]) (j := 1) rfl rfl rfl rfl (Try.call6 _) (fun hs => sign_c s k ad l.length c l b5 er6 hs0 hk0 (show l.length ≤ 1000 by omega) hb5 her6 _ _ (hs.all (k := 0) rfl rfl)) (fun _ => rfl) rfl rfl fun ⟨ad7, cp8⟩ ac w hs => ?_))
    refine lstep (wpO_plain rfl (op_move hs none rfl rfl rfl rfl fun ac hs => ?_))
    refine lstep (wpO_plain rfl (op_extract hs none rfl rfl rfl rfl rfl fun ac hs => ?_))
    refine lstep (wpO_plain rfl (op_extract hs none rfl rfl rfl rfl rfl fun ac hs => ?_))
    refine lstep (wpO_plain rfl (op_assign hs none rfl rfl rfl rfl fun ac hs => ?_))
    refine lstep (wpO_plain rfl (op_assign hs none rfl rfl rfl rfl fun ac hs => ?_))
    refine wpList_nil ?_
    refine then_n ?_
    refine wp_seq ?_
    replace hs : St 63 ⟨w0, [], [(true, .cel (.slice ad l.length c) l.length (bcs l)), (true, .cel (.slice ad7 b5.length cp8) b5.length (bcs b5))], Z, noX⟩ [(2, true, .slice ad l.length c), (3, true, .pointer (some ⟨g1, 0, none⟩)), (6, true, .bool false), (7, true, .slice ad7 b5.length cp8), (8, true, .int .i64 ((er6 : Nat) : Int))] [(true, g1, 24, (Wl s)), (true, g2, 24, (Wl k))] ac _ := hs.re ⟨rfl, rfl, rfl, rfl, rfl, trivial⟩
    refine wp_region_lit ?_
    refine lstep (wpO_plain rfl (op_load hs none 0 (v := W s) rfl rfl rfl rfl Try.isAgg24 Try.sizeOf24 rfl rfl fun ac hs => ?_))
    obtain ⟨er9, her9⟩ : ∃ z0, sE s = z0 := ⟨_, rfl⟩
    have ler9 := sE_le s
    rw [her9] at ler9
    refine lstep (wpO_plain rfl (op_call (F := 7) hs none (v := .tuple #[At .u8 32 (sK s), .int .i64 ((er9 : Nat) : Int)]) rfl rfl rfl rfl (Try.call7 _) (key_c s er9 hs0 her9) rfl fun ac w hs => ?_))
    refine lstep (wpO_plain rfl (op_move hs none rfl rfl rfl rfl fun ac hs => ?_))
    refine lstep (wpO_plain rfl (op_extract hs none rfl rfl rfl rfl rfl fun ac hs => ?_))
    refine lstep (wpO_plain rfl (op_extract hs none rfl rfl rfl rfl rfl fun ac hs => ?_))
    refine lstep (wpO_plain rfl (op_alloc hs none none (cs := (tab .u8 32 (fun _ => 0))) rfl rfl Try.zeroValue30 (by kernel_rfl) rfl rfl fun g10 ac w hs => ?_))
    refine lstep (wpO_plain rfl (op_store hs 2 (vs := (tab .u8 32 (sK s))) rfl rfl rfl rfl rfl Try.sizeOf30 (by kernel_rfl) tab_length' (tab_one _ _ _) tab_leA wr_tab fun w hs => ?_))
    refine lstep (wpO_plain rfl (op_assign hs none rfl rfl rfl rfl fun ac hs => ?_))
    refine wpList_nil ?_
    refine then_n ?_
    refine wp_seq ?_
    refine wp_seq ?_
    by_cases hq11 : er6 = 0
    · skip
      have hsg : sgE s k = 0 := her6.trans hq11
      have he2 : er9 = 0 := her9.symm.trans (sg_ok hsg).1
      have h64 : b5.length = 64 := by rw [← hb5]; exact sg_64 l hsg
      have hvt : verB (sK s) l b5 = true := by rw [← hb5]; exact sg_sign l hsg
      have hvf : verB (sK s) l (b5.take 63) = false := verB_short (by rw [List.length_take]; omega)
      replace hs : St 63 ⟨w0, [], [(true, .cel (.slice ad l.length c) l.length (bcs l)), (true, .cel (.slice ad7 b5.length cp8) b5.length (bcs b5))], Z, noX⟩ [(2, true, .slice ad l.length c), (6, true, .bool false), (7, true, .slice ad7 b5.length cp8), (8, true, .int .i64 ((er6 : Nat) : Int)), (9, true, .pointer (some ⟨g10, 0, none⟩)), (10, true, .int .i64 ((er9 : Nat) : Int))] [(true, g1, 24, (Wl s)), (true, g2, 24, (Wl k)), (true, g10, 30, (tab .u8 32 (sK s)))] ac _ := hs.re ⟨rfl, rfl, rfl, rfl, rfl, rfl, trivial⟩
      refine wp_region_lit ?_
      refine lstep (wpO_plain rfl (op_move hs none rfl rfl rfl rfl fun ac hs => ?_))
      refine lstep (wpO_plain rfl (op_bin hs none (v := .bool false) rfl rfl rfl rfl (fun _ => rfl) (fun w => dF (fun hh => hh hq11) (bin_neqN (x := er6) (y := 0) w)) rfl fun ac hs => ?_))
      refine lstep (wpO_plain rfl (op_move hs none rfl rfl rfl rfl fun ac hs => ?_))
      refine lstep (wpO_in hs rfl rfl rfl (op_move hs none rfl rfl rfl rfl fun ac hs => ?_))
      refine lstep (wpO_in hs rfl rfl rfl (op_bin hs none (v := .bool false) rfl rfl rfl rfl (fun _ => rfl) (fun w => dF (fun hh => hh he2) (bin_neqN (x := er9) (y := 0) w)) rfl fun ac hs => ?_))
      refine lstep (wpO_plain rfl (op_pickF hs none rfl rfl rfl rfl rfl fun ac hs => ?_))
      refine wpList_nil ?_
      refine then_n ?_
      refine wp_cond_false (hs.ev rfl) ?_
      refine wp_skip ?_
      refine then_n ?_
      refine wp_seq ?_
      replace hs : St 63 ⟨w0, [], [(true, .cel (.slice ad l.length c) l.length (bcs l)), (true, .cel (.slice ad7 b5.length cp8) b5.length (bcs b5))], Z, noX⟩ [(2, true, .slice ad l.length c), (6, true, .bool false), (7, true, .slice ad7 b5.length cp8), (9, true, .pointer (some ⟨g10, 0, none⟩))] [(true, g1, 24, (Wl s)), (true, g2, 24, (Wl k)), (true, g10, 30, (tab .u8 32 (sK s)))] ac _ := hs.re ⟨rfl, rfl, rfl, rfl, trivial⟩
      refine region_inv [([], [1, 2, 3, 4, 5, 6, 7, 8, 9, 10, 11, 12, 13, 14, 15, 16, 17, 18, 19, 20]), ([0], [2, 3, 4, 5, 6, 7, 8, 9, 10, 11, 12, 13, 14, 15, 16, 17, 18, 19, 20]), ([0, 1], [3, 4, 5, 6, 7, 8, 9, 10, 11, 12, 13, 14, 15, 16, 17, 18, 19, 20]), ([0, 1, 2], [4, 5, 6, 7, 8, 9, 10, 11, 12, 13, 14, 15, 16, 17, 18, 19, 20]), ([0, 1, 2, 3], [5, 6, 7, 8, 9, 10, 11, 12, 13, 14, 15, 16, 17, 18, 19, 20]), ([0, 1, 2, 3, 4], [6, 7, 8, 9, 10, 11, 12, 13, 14, 15, 16, 17, 18, 19, 20]), ([0, 1, 2, 3, 4, 5], [7, 8, 9, 10, 11, 12, 13, 14, 15, 16, 17, 18, 19, 20]), ([0, 1, 2, 3, 4, 5, 6], [10, 11, 12, 13, 14, 15, 16, 17, 18, 19, 20]), ([0, 1, 2, 3, 4, 5, 6], [10, 11, 12, 13, 14, 15, 16, 17, 18, 19, 20]), ([0, 1, 2, 3, 4, 5, 6], [10, 11, 12, 13, 14, 15, 16, 17, 18, 19, 20]), ([0, 1, 2, 3, 4, 5, 6, 7, 8, 9], [11, 12, 13, 14, 15, 16, 17, 18, 19, 20]), ([0, 1, 2, 3, 4, 5, 6, 7, 8, 9, 10], [12, 13, 14, 15, 16, 17, 18, 19, 20]), ([0, 1, 2, 3, 4, 5, 6, 7, 8, 9, 10, 11], [13, 14, 15, 16, 17, 18, 19, 20]), ([0, 1, 2, 3, 4, 5, 6, 7, 8, 9, 10, 11, 12], [17, 18, 19, 20]), ([0, 1, 2, 3, 4, 5, 6, 7, 8, 9, 10, 11, 12], [17, 18, 19, 20]), ([0, 1, 2, 3, 4, 5, 6, 7, 8, 9, 10, 11, 12], [16, 17, 18, 19, 20]), ([0, 1, 2, 3, 4, 5, 6, 7, 8, 9, 10, 11, 12, 15], [17, 18, 19, 20]), ([0, 1, 2, 3, 4, 5, 6, 7, 8, 9, 10, 11, 12, 13, 14, 15, 16], [18, 19, 20]), ([0, 1, 2, 3, 4, 5, 6, 7, 8, 9, 10, 11, 12, 13, 14, 15, 16, 17], [19, 20]), ([0, 1, 2, 3, 4, 5, 6, 7, 8, 9, 10, 11, 12, 13, 14, 15, 16, 17, 18], [20]), ([0, 1, 2, 3, 4, 5, 6, 7, 8, 9, 10, 11, 12, 13, 14, 15, 16, 17, 18, 19], [])] (fun L ac w => St 63 ⟨w0, [], [(true, .cel (.slice ad l.length c) l.length (bcs l)), (true, .cel (.slice ad7 b5.length cp8) b5.length (bcs b5)), (L 16, .cel (.slice (vsa ad7 cp8 1 0) ((b5.take 63).length) (cp8 - 0)) ((b5.take 63).length) (bcs (b5.take 63)))], Z, noX⟩ [(43, L 0, .bool true), (44, L 1, .bool true), (45, L 2, .slice ad7 b5.length cp8), (46, L 3, .int .i64 ((b5.length : Nat) : Int)), (47, L 4, .bool true), (48, L 5, .bool true), (49, L 6, .bool true), (50, L 7, At .u8 32 (sK s)), (51, L 8, .slice ad l.length c), (52, L 9, .slice ad7 b5.length cp8), (53, L 10, .bool true), (54, L 11, .bool true), (55, L 12, .bool true), (56, L 13, At .u8 32 (sK s)), (57, L 14, .slice ad l.length c), (58, L 15, .slice ad7 b5.length cp8), (59, L 16, .slice (vsa ad7 cp8 1 0) ((b5.take 63).length) (cp8 - 0)), (60, L 17, .bool false), (61, L 18, .bool true), (62, L 19, .bool true), (6, L 20, .bool true), (2, true, .slice ad l.length c), (6, true, .bool false), (7, true, .slice ad7 b5.length cp8), (9, true, .pointer (some ⟨g10, 0, none⟩))] [(true, g1, 24, (Wl s)), (true, g2, 24, (Wl k)), (true, g10, 30, (tab .u8 32 (sK s)))] ac w) (by kernel_rfl) (by kernel_rfl) ?_ ?_ ?_
      · exact hs.drew.skip.skip.skip.skip.skip.skip.skip.skip.skip.skip.skip.skip.skip.skip.skip.skip.skip.skip.skip.skip.skip.padS
      · refine ⟨?_, ?_, ?_, ?_, ?_, ?_, ?_, ?_, ?_, ?_, ?_, ?_, ?_, ?_, ?_, ?_, ?_, ?_, ?_, ?_, ?_, trivial⟩
        · intro L ac w hJ
          have hs := hJ
          refine wpO_plain rfl (op_call (F := 5) hs (some 0) (v := .bool true) rfl rfl rfl rfl (Try.call5 _) alive_c rfl fun ac w hs => ?_)
          exact hs
        · intro L ac w hJ
          have hs := hJ
          refine wpO_plain rfl (op_move hs (some 1) rfl rfl rfl rfl fun ac hs => ?_)
          exact hs
        · intro L ac w hJ
          have hs := hJ
          refine wpO_in hs rfl rfl rfl (op_move hs (some 2) rfl rfl rfl rfl fun ac hs => ?_)
          exact hs
        · intro L ac w hJ
          have hs := hJ
          refine wpO_in hs rfl rfl rfl (op_blt hs (some 3) (v := .int .i64 ((b5.length : Nat) : Int)) rfl rfl rfl (blt_len Try.underlying25) rfl fun ac hs => ?_)
          exact hs
        · intro L ac w hJ
          have hs := hJ
          refine wpO_in hs rfl rfl rfl (op_bin hs (some 4) (v := .bool true) rfl rfl rfl rfl (fun _ => rfl) (fun w => dT h64 (bin_eqlN (x := b5.length) (y := 64) w)) rfl fun ac hs => ?_)
          exact hs
        · intro L ac w hJ
          have hs := hJ
          refine wpO_plain rfl (op_pickT hs (some 5) rfl rfl rfl rfl rfl fun ac hs => ?_)
          exact hs
        · intro L ac w hJ
          have hs := hJ
          refine wpO_plain rfl (op_move hs (some 6) rfl rfl rfl rfl fun ac hs => ?_)
          exact hs
        · intro L ac w hJ
          have hs := hJ
          refine wpO_in hs rfl rfl rfl (op_load hs (some 7) 2 (v := At .u8 32 (sK s)) rfl rfl rfl rfl Try.isAgg30 Try.sizeOf30 ldv_tab rfl fun ac hs => ?_)
          exact hs
        · intro L ac w hJ
          have hs := hJ
          refine wpO_in hs rfl rfl rfl (op_move hs (some 8) rfl rfl rfl rfl fun ac hs => ?_)
          exact hs
        · intro L ac w hJ
          have hs := hJ
          refine wpO_in hs rfl rfl rfl (op_move hs (some 9) rfl rfl rfl rfl fun ac hs => ?_)
          exact hs
        · intro L ac w hJ
          have hs := hJ
          refine wpO_in hs rfl rfl rfl (op_callS (F := 8) (ρ := Unit) hs (some 10) none (v := fun r => .bool true) (E := fun r => []) (j := 0) rfl rfl rfl rfl (Try.call8 _) (fun hs => verify_c (sK s) ad l.length c l ad7 b5.length cp8 b5 true (fun j _ => sK_lt _ j) (show l.length ≤ 1000 by omega) (show b5.length ≤ 1000 by omega) hvt _ _ (hs.all (k := 0) rfl rfl) (hs.all (k := 1) rfl rfl)) (fun _ => rfl) rfl rfl fun _ ac w hs => ?_)
          exact hs
        · intro L ac w hJ
          have hs := hJ
          refine wpO_plain rfl (op_pickT hs (some 11) rfl rfl rfl rfl rfl fun ac hs => ?_)
          exact hs
        · intro L ac w hJ
          have hs := hJ
          refine wpO_plain rfl (op_move hs (some 12) rfl rfl rfl rfl fun ac hs => ?_)
          exact hs
        · intro L ac w hJ
          have hs := hJ
          refine wpO_in hs rfl rfl rfl (op_load hs (some 13) 2 (v := At .u8 32 (sK s)) rfl rfl rfl rfl Try.isAgg30 Try.sizeOf30 ldv_tab rfl fun ac hs => ?_)
          exact hs
        · intro L ac w hJ
          have hs := hJ
          refine wpO_in hs rfl rfl rfl (op_move hs (some 14) rfl rfl rfl rfl fun ac hs => ?_)
          exact hs
        · intro L ac w hJ
          have hs := hJ
          refine wpO_in hs rfl rfl rfl (op_move hs (some 15) rfl rfl rfl rfl fun ac hs => ?_)
          exact hs
        · intro L ac w hJ
          have hs := hJ
          refine wpO_in hs rfl rfl rfl (op_sliceR hs (some 16) (some 2) 1 0 63 (N' := (b5.take 63).length) (cs' := bcs (b5.take 63)) rfl rfl rfl rfl (.inl ⟨rfl, rfl⟩) (.inr ⟨_, _, rfl, rfl⟩) Try.underlying25 Try.sizeOf5 (show 0 ≤ 63 by omega) (show 63 ≤ b5.length by omega) (len_hi (show 63 ≤ b5.length by omega)) bcs_hi rfl rfl fun ac hs => ?_)
          exact hs
        · intro L ac w hJ
          have hs := hJ
          refine wpO_in hs rfl rfl rfl (op_callS (F := 8) (ρ := Unit) hs (some 17) none (v := fun r => .bool false) (E := fun r => []) (j := 0) rfl rfl rfl rfl (Try.call8 _) (fun hs => verify_c (sK s) ad l.length c l (vsa ad7 cp8 1 0) ((b5.take 63).length) (cp8 - 0) (b5.take 63) false (fun j _ => sK_lt _ j) (show l.length ≤ 1000 by omega) (show (b5.take 63).length ≤ 1000 by first | omega | ((try simp only [List.length_drop, List.length_take, List.length_append, List.length_cons, List.length_nil]); omega)) hvf _ _ (hs.all (k := 0) rfl rfl) (hs.all (k := 2) rfl rfl)) (fun _ => rfl) rfl rfl fun _ ac w hs => ?_)
          exact hs
        · intro L ac w hJ
          have hs := hJ
          refine wpO_in hs rfl rfl rfl (op_un hs (some 18) (v := .bool true) rfl rfl rfl (fun _ => rfl) rfl fun ac hs => ?_)
          exact hs
        · intro L ac w hJ
          have hs := hJ
          refine wpO_plain rfl (op_pickT hs (some 19) rfl rfl rfl rfl rfl fun ac hs => ?_)
          exact hs
        · intro L ac w hJ
          have hs := hJ
          refine wpO_plain rfl (op_assign hs (some 20) rfl rfl rfl rfl fun ac hs => ?_)
          exact hs
      intro ac w hJ
      replace hs : St 63 ⟨w0, [], [(true, .cel (.slice ad l.length c) l.length (bcs l)), (true, .cel (.slice ad7 b5.length cp8) b5.length (bcs b5)), (true, .cel (.slice (vsa ad7 cp8 1 0) ((b5.take 63).length) (cp8 - 0)) ((b5.take 63).length) (bcs (b5.take 63)))], Z, noX⟩ [(43, true, .bool true), (44, true, .bool true), (45, true, .slice ad7 b5.length cp8), (46, true, .int .i64 ((b5.length : Nat) : Int)), (47, true, .bool true), (48, true, .bool true), (49, true, .bool true), (50, true, At .u8 32 (sK s)), (51, true, .slice ad l.length c), (52, true, .slice ad7 b5.length cp8), (53, true, .bool true), (54, true, .bool true), (55, true, .bool true), (56, true, At .u8 32 (sK s)), (57, true, .slice ad l.length c), (58, true, .slice ad7 b5.length cp8), (59, true, .slice (vsa ad7 cp8 1 0) ((b5.take 63).length) (cp8 - 0)), (60, true, .bool false), (61, true, .bool true), (62, true, .bool true), (6, true, .bool true), (2, true, .slice ad l.length c), (6, true, .bool false), (7, true, .slice ad7 b5.length cp8), (9, true, .pointer (some ⟨g10, 0, none⟩))] [(true, g1, 24, (Wl s)), (true, g2, 24, (Wl k)), (true, g10, 30, (tab .u8 32 (sK s)))] ac w := hJ
      refine then_n ?_
      refine wp_ret ?_
      exact bodyPost_ret (res1 rfl (rv_t hs rfl)) hs.defers ⟨(), rfl, hs.bel rfl, okl0⟩
    · skip
      have hse := sg_err (s := s) (k := k) l (by rw [her6]; exact hq11)
      rw [hb5, her6] at hse
      replace hs : St 63 ⟨w0, [], [(true, .cel (.slice ad l.length c) l.length (bcs l)), (true, .cel (.slice ad7 b5.length cp8) b5.length (bcs b5))], Z, noX⟩ [(2, true, .slice ad l.length c), (6, true, .bool false), (7, true, .slice ad7 b5.length cp8), (8, true, .int .i64 ((er6 : Nat) : Int)), (9, true, .pointer (some ⟨g10, 0, none⟩)), (10, true, .int .i64 ((er9 : Nat) : Int))] [(true, g1, 24, (Wl s)), (true, g2, 24, (Wl k)), (true, g10, 30, (tab .u8 32 (sK s)))] ac _ := hs.re ⟨rfl, rfl, rfl, rfl, rfl, rfl, trivial⟩
      refine wp_region_lit ?_
      refine lstep (wpO_plain rfl (op_move hs none rfl rfl rfl rfl fun ac hs => ?_))
      refine lstep (wpO_plain rfl (op_bin hs none (v := .bool true) rfl rfl rfl rfl (fun _ => rfl) (fun w => dT hq11 (bin_neqN (x := er6) (y := 0) w)) rfl fun ac hs => ?_))
      refine lstep (wpO_plain rfl (op_move hs none rfl rfl rfl rfl fun ac hs => ?_))
      refine lstep (wpO_out hs none rfl rfl (.inl rfl) rfl rfl fun ac hs => ?_)
      refine lstep (wpO_out hs none rfl rfl (.inl rfl) rfl rfl fun ac hs => ?_)
      refine lstep (wpO_plain rfl (op_pickT hs none rfl rfl rfl rfl rfl fun ac hs => ?_))
      refine wpList_nil ?_
      refine then_n ?_
      refine wp_cond_true (hs.ev rfl) ?_
      refine wp_seq ?_
      refine wp_region_lit ?_
      refine lstep (wpO_plain rfl (op_call (F := 5) hs none (v := .bool true) rfl rfl rfl rfl (Try.call5 _) alive_c rfl fun ac w hs => ?_))
      refine lstep (wpO_plain rfl (op_move hs none rfl rfl rfl rfl fun ac hs => ?_))
      refine lstep (wpO_in hs rfl rfl rfl (op_move hs none rfl rfl rfl rfl fun ac hs => ?_))
      refine lstep (wpO_in hs rfl rfl rfl (op_bin hs none (v := .bool true) rfl rfl rfl rfl (fun _ => rfl) (fun w => dT hse.2 (bin_eqlN (x := er6) (y := 1) w)) rfl fun ac hs => ?_))
      refine lstep (wpO_plain rfl (op_pickT hs none rfl rfl rfl rfl rfl fun ac hs => ?_))
      refine lstep (wpO_plain rfl (op_move hs none rfl rfl rfl rfl fun ac hs => ?_))
      refine lstep (wpO_in hs rfl rfl rfl (op_move hs none rfl rfl rfl rfl fun ac hs => ?_))
      refine lstep (wpO_in hs rfl rfl rfl (op_blt hs none (v := .int .i64 ((b5.length : Nat) : Int)) rfl rfl rfl (blt_len Try.underlying25) rfl fun ac hs => ?_))
      refine lstep (wpO_in hs rfl rfl rfl (op_bin hs none (v := .bool true) rfl rfl rfl rfl (fun _ => rfl) (fun w => dT (by rw [hse.1]; rfl) (bin_eqlN (x := b5.length) (y := 0) w)) rfl fun ac hs => ?_))
      refine lstep (wpO_plain rfl (op_pickT hs none rfl rfl rfl rfl rfl fun ac hs => ?_))
      refine lstep (wpO_plain rfl (op_assign hs none rfl rfl rfl rfl fun ac hs => ?_))
      refine wpList_nil ?_
      refine then_n ?_
      refine wp_ret ?_
      refine then_r ?_
      exact bodyPost_ret (res1 rfl (rv_t hs rfl)) hs.defers ⟨(), rfl, hs.bel rfl, okl0⟩
theorem turned_law (s k : Nat) (ad : Option Addr) (c : Nat) (l : List UInt8) (hs0 : s < 2 ^ 256) (hk0 : k < 2 ^ 256) (w0 : World) (Z : Nat → Prop) (hl : ByV w0 Z (.slice ad l.length c) l): Calls Try.prog 4 #[W s, W k, .slice ad l.length c] w0 fun e w' => Ret w0 Z (ρ := Unit) (fun r => .bool true) (fun r => []) e w' := by
  refine enterS (n := 90) (args := [W s, W k, .slice ad l.length c]) (S := [(true, .cel (.slice ad l.length c) l.length (bcs l))]) (Z := Z) Try.func4 rfl rfl (Nat.le_of_ble_eq_true rfl) (sokC hl sok0) rfl fun ac hs => ?_
  refine wp_seq ?_
  refine wp_region_lit ?_
  refine lstep (wpO_plain rfl (op_box hs none none (cs := (Wl s)) rfl rfl rfl rfl rfl rfl fun g1 ac w hs => ?_))
  refine lstep (wpO_plain rfl (op_box hs none none (cs := (Wl k)) rfl rfl rfl rfl rfl rfl fun g2 ac w hs => ?_))
  refine lstep (wpO_plain rfl (op_assign hs none rfl rfl rfl rfl fun ac hs => ?_))
  refine wpList_nil ?_
  refine then_n ?_
  refine wp_seq ?_
  refine wp_seq ?_
  refine wp_region_lit ?_
  refine lstep (wpO_plain rfl (op_move hs none rfl rfl rfl rfl fun ac hs => ?_))
  refine lstep (wpO_plain rfl (op_blt hs none (v := .int .i64 ((l.length : Nat) : Int)) rfl rfl rfl (blt_len Try.underlying25) rfl fun ac hs => ?_))
  refine lstep (wpO_plain rfl (op_bin hs none (v := .bool (decide (200 < l.length))) rfl rfl rfl rfl (fun _ => rfl) (bin_gtrN (x := l.length) (y := 200)) rfl fun ac hs => ?_))
  refine wpList_nil ?_
  refine then_n ?_
  refine wp_cond_split (hs.ev rfl) (fun hc => ?_) (fun hc => ?_)
  · skip
    have hp3 := of_decide_eq_true hc
    refine wp_seq ?_
    replace hs : St 90 ⟨w0, [], [(true, .cel (.slice ad l.length c) l.length (bcs l))], Z, noX⟩ [(2, true, .slice ad l.length c), (3, true, .pointer (some ⟨g1, 0, none⟩)), (4, true, .pointer (some ⟨g2, 0, none⟩)), (6, true, .bool false)] [(true, g1, 24, (Wl s)), (true, g2, 24, (Wl k))] ac _ := hs.re ⟨rfl, rfl, rfl, rfl, trivial⟩
    refine wp_region_lit ?_
    refine lstep (wpO_plain rfl (op_call (F := 5) hs none (v := .bool true) rfl rfl rfl rfl (Try.call5 _) alive_c rfl fun ac w hs => ?_))
    refine lstep (wpO_plain rfl (op_assign hs none rfl rfl rfl rfl fun ac hs => ?_))
    refine wpList_nil ?_
    refine then_n ?_
    refine wp_ret ?_
    refine then_r ?_
    exact bodyPost_ret (res1 rfl (rv_t hs rfl)) hs.defers ⟨(), rfl, hs.bel rfl, okl0⟩
  · skip
    have hp4 := of_decide_eq_false hc
    refine wp_skip ?_
    refine then_n ?_
    refine wp_seq ?_
    replace hs : St 90 ⟨w0, [], [(true, .cel (.slice ad l.length c) l.length (bcs l))], Z, noX⟩ [(2, true, .slice ad l.length c), (3, true, .pointer (some ⟨g1, 0, none⟩)), (4, true, .pointer (some ⟨g2, 0, none⟩)), (6, true, .bool false)] [(true, g1, 24, (Wl s)), (true, g2, 24, (Wl k))] ac _ := hs.re ⟨rfl, rfl, rfl, rfl, trivial⟩
    refine wp_region_lit ?_
    refine lstep (wpO_plain rfl (op_load hs none 0 (v := W s) rfl rfl rfl rfl Try.isAgg24 Try.sizeOf24 rfl rfl fun ac hs => ?_))
    obtain ⟨er5, her5⟩ : ∃ z0, sE s = z0 := ⟨_, rfl⟩
    have ler5 := sE_le s
    rw [her5] at ler5
    refine lstep (wpO_plain rfl (op_call (F := 7) hs none (v := .tuple #[At .u8 32 (sK s), .int .i64 ((er5 : Nat) : Int)]) rfl rfl rfl rfl (Try.call7 _) (key_c s er5 hs0 her5) rfl fun ac w hs => ?_))
    refine lstep (wpO_plain rfl (op_move hs none rfl rfl rfl rfl fun ac hs => ?_))
    refine lstep (wpO_plain rfl (op_extract hs none rfl rfl rfl rfl rfl fun ac hs => ?_))
    refine lstep (wpO_plain rfl (op_extract hs none rfl rfl rfl rfl rfl fun ac hs => ?_))
    refine lstep (wpO_plain rfl (op_alloc hs none none (cs := (tab .u8 32 (fun _ => 0))) rfl rfl Try.zeroValue30 (by kernel_rfl) rfl rfl fun g6 ac w hs => ?_))
    refine lstep (wpO_plain rfl (op_store hs 2 (vs := (tab .u8 32 (sK s))) rfl rfl rfl rfl rfl Try.sizeOf30 (by kernel_rfl) tab_length' (tab_one _ _ _) tab_leA wr_tab fun w hs => ?_))
    refine lstep (wpO_plain rfl (op_assign hs none rfl rfl rfl rfl fun ac hs => ?_))
    refine wpList_nil ?_
    refine then_n ?_
    refine wp_seq ?_
    replace hs : St 90 ⟨w0, [], [(true, .cel (.slice ad l.length c) l.length (bcs l))], Z, noX⟩ [(2, true, .slice ad l.length c), (3, true, .pointer (some ⟨g1, 0, none⟩)), (4, true, .pointer (some ⟨g2, 0, none⟩)), (6, true, .bool false), (7, true, .pointer (some ⟨g6, 0, none⟩)), (8, true, .int .i64 ((er5 : Nat) : Int))] [(true, g1, 24, (Wl s)), (true, g2, 24, (Wl k)), (true, g6, 30, (tab .u8 32 (sK s)))] ac _ := hs.re ⟨rfl, rfl, rfl, rfl, rfl, rfl, trivial⟩
    refine wp_region_lit ?_
    refine lstep (wpO_plain rfl (op_load hs none 0 (v := W s) rfl rfl rfl rfl Try.isAgg24 Try.sizeOf24 rfl rfl fun ac hs => ?_))
    refine lstep (wpO_plain rfl (op_move hs none rfl rfl rfl rfl fun ac hs => ?_))
    obtain ⟨v7, hv7, lv7⟩ : ∃ z0, tsV s l = z0 ∧ z0 < 2 ^ 256 := ⟨_, rfl, tsV_lt _ _⟩
    obtain ⟨er8, her8⟩ : ∃ z0, tsE s l = z0 := ⟨_, rfl⟩
    refine lstep (wpO_plain rfl (op_callS (F := 9) (ρ := Unit) hs none none (v := fun r => .tuple #[W v7, .int .i64 ((er8 : Nat) : Int)]) (E := fun r => []) (j := 0) rfl rfl rfl rfl (Try.call9 _) (fun hs => tsec_c s ad l.length c l v7 er8 hs0 (show l.length ≤ 1000 by omega) hv7 her8 _ _ (hs.all (k := 0) rfl rfl)) (fun _ => rfl) rfl rfl fun _ ac w hs => ?_))
    refine lstep (wpO_plain rfl (op_move hs none rfl rfl rfl rfl fun ac hs => ?_))
    refine lstep (wpO_plain rfl (op_extract hs none rfl rfl rfl rfl rfl fun ac hs => ?_))
    refine lstep (wpO_plain rfl (op_extract hs none rfl rfl rfl rfl rfl fun ac hs => ?_))
    refine lstep (wpO_plain rfl (op_alloc hs none none (cs := [.int .u64 0, .int .u64 0, .int .u64 0, .int .u64 0]) rfl rfl Try.zeroValue24 (by kernel_rfl) rfl rfl fun g9 ac w hs => ?_))
    refine lstep (wpO_plain rfl (op_store hs 3 (vs := (Wl v7)) rfl rfl rfl rfl rfl Try.sizeOf24 rfl rfl rfl rfl rfl fun w hs => ?_))
    refine lstep (wpO_plain rfl (op_assign hs none rfl rfl rfl rfl fun ac hs => ?_))
    refine wpList_nil ?_
    refine then_n ?_
    refine wp_seq ?_
    refine wp_seq ?_
    by_cases hq10 : er5 = 0
    · skip
      by_cases hq11 : er8 = 0
      · skip
        have hts : tsE s l = 0 := her8.trans hq11
        obtain ⟨ht1, ht2, ht3⟩ := turned_key hts
        rw [hv7] at ht2 ht3
        replace hs : St 90 ⟨w0, [], [(true, .cel (.slice ad l.length c) l.length (bcs l))], Z, noX⟩ [(2, true, .slice ad l.length c), (4, true, .pointer (some ⟨g2, 0, none⟩)), (6, true, .bool false), (7, true, .pointer (some ⟨g6, 0, none⟩)), (8, true, .int .i64 ((er5 : Nat) : Int)), (9, true, .pointer (some ⟨g9, 0, none⟩)), (10, true, .int .i64 ((er8 : Nat) : Int))] [(true, g1, 24, (Wl s)), (true, g2, 24, (Wl k)), (true, g6, 30, (tab .u8 32 (sK s))), (true, g9, 24, (Wl v7))] ac _ := hs.re ⟨rfl, rfl, rfl, rfl, rfl, rfl, rfl, trivial⟩
        refine wp_region_lit ?_
        refine lstep (wpO_plain rfl (op_move hs none rfl rfl rfl rfl fun ac hs => ?_))
        refine lstep (wpO_plain rfl (op_bin hs none (v := .bool false) rfl rfl rfl rfl (fun _ => rfl) (fun w => dF (fun hh => hh hq10) (bin_neqN (x := er5) (y := 0) w)) rfl fun ac hs => ?_))
        refine lstep (wpO_plain rfl (op_move hs none rfl rfl rfl rfl fun ac hs => ?_))
        refine lstep (wpO_in hs rfl rfl rfl (op_move hs none rfl rfl rfl rfl fun ac hs => ?_))
        refine lstep (wpO_in hs rfl rfl rfl (op_bin hs none (v := .bool false) rfl rfl rfl rfl (fun _ => rfl) (fun w => dF (fun hh => hh hq11) (bin_neqN (x := er8) (y := 0) w)) rfl fun ac hs => ?_))
        refine lstep (wpO_plain rfl (op_pickF hs none rfl rfl rfl rfl rfl fun ac hs => ?_))
        refine wpList_nil ?_
        refine then_n ?_
        refine wp_cond_false (hs.ev rfl) ?_
        refine wp_skip ?_
        refine then_n ?_
        refine wp_seq ?_
        replace hs : St 90 ⟨w0, [], [(true, .cel (.slice ad l.length c) l.length (bcs l))], Z, noX⟩ [(2, true, .slice ad l.length c), (4, true, .pointer (some ⟨g2, 0, none⟩)), (6, true, .bool false), (7, true, .pointer (some ⟨g6, 0, none⟩)), (9, true, .pointer (some ⟨g9, 0, none⟩))] [(true, g1, 24, (Wl s)), (true, g2, 24, (Wl k)), (true, g6, 30, (tab .u8 32 (sK s))), (true, g9, 24, (Wl v7))] ac _ := hs.re ⟨rfl, rfl, rfl, rfl, rfl, trivial⟩
        refine wp_region_lit ?_
        refine lstep (wpO_plain rfl (op_load hs none 2 (v := At .u8 32 (sK s)) rfl rfl rfl rfl Try.isAgg30 Try.sizeOf30 ldv_tab rfl fun ac hs => ?_))
        refine lstep (wpO_plain rfl (op_move hs none rfl rfl rfl rfl fun ac hs => ?_))
        obtain ⟨q12, hq12⟩ : ∃ z0, tuO (sK s) l = z0 := ⟨_, rfl⟩
        obtain ⟨er13, her13⟩ : ∃ z0, tuE (sK s) l = z0 := ⟨_, rfl⟩
        refine lstep (wpO_plain rfl (op_callS (F := 10) (ρ := Unit) hs none none (v := fun r => .tuple #[At .u8 32 (tuK (sK s) l), .bool q12, .int .i64 ((er13 : Nat) : Int)]) (E := fun r => []) (j := 0) rfl rfl rfl rfl (Try.call10 _) (fun hs => turn15_c (sK s) ad l.length c l q12 er13 (fun j _ => sK_lt _ j) (show l.length ≤ 1000 by omega) hq12 her13 _ _ (hs.all (k := 0) rfl rfl)) (fun _ => rfl) rfl rfl fun _ ac w hs => ?_))
        refine lstep (wpO_plain rfl (op_move hs none rfl rfl rfl rfl fun ac hs => ?_))
        refine lstep (wpO_plain rfl (op_extract hs none rfl rfl rfl rfl rfl fun ac hs => ?_))
        refine lstep (wpO_plain rfl (op_extract hs none rfl rfl rfl rfl rfl fun ac hs => ?_))
        refine lstep (wpO_plain rfl (op_extract hs none rfl rfl rfl rfl rfl fun ac hs => ?_))
        refine lstep (wpO_plain rfl (op_alloc hs none none (cs := (tab .u8 32 (fun _ => 0))) rfl rfl Try.zeroValue30 (by kernel_rfl) rfl rfl fun g14 ac w hs => ?_))
        refine lstep (wpO_plain rfl (op_store hs 4 (vs := (tab .u8 32 (tuK (sK s) l))) rfl rfl rfl rfl rfl Try.sizeOf30 (by kernel_rfl) tab_length' (tab_one _ _ _) tab_leA wr_tab fun w hs => ?_))
        refine lstep (wpO_plain rfl (op_assign hs none rfl rfl rfl rfl fun ac hs => ?_))
        refine lstep (wpO_plain rfl (op_assign hs none rfl rfl rfl rfl fun ac hs => ?_))
        refine wpList_nil ?_
        refine then_n ?_
        refine wp_seq ?_
        replace hs : St 90 ⟨w0, [], [(true, .cel (.slice ad l.length c) l.length (bcs l))], Z, noX⟩ [(2, true, .slice ad l.length c), (4, true, .pointer (some ⟨g2, 0, none⟩)), (6, true, .bool false), (9, true, .pointer (some ⟨g9, 0, none⟩)), (11, true, .pointer (some ⟨g14, 0, none⟩)), (13, true, .int .i64 ((er13 : Nat) : Int))] [(true, g1, 24, (Wl s)), (true, g2, 24, (Wl k)), (true, g6, 30, (tab .u8 32 (sK s))), (true, g9, 24, (Wl v7)), (true, g14, 30, (tab .u8 32 (tuK (sK s) l)))] ac _ := hs.re ⟨rfl, rfl, rfl, rfl, rfl, rfl, trivial⟩
        refine wp_region_lit ?_
        refine lstep (wpO_plain rfl (op_load hs none 3 (v := W v7) rfl rfl rfl rfl Try.isAgg24 Try.sizeOf24 rfl rfl fun ac hs => ?_))
        obtain ⟨er15, her15⟩ : ∃ z0, sE v7 = z0 := ⟨_, rfl⟩
        have ler15 := sE_le v7
        rw [her15] at ler15
        refine lstep (wpO_plain rfl (op_call (F := 7) hs none (v := .tuple #[At .u8 32 (sK v7), .int .i64 ((er15 : Nat) : Int)]) rfl rfl rfl rfl (Try.call7 _) (key_c v7 er15 lv7 her15) rfl fun ac w hs => ?_))
        refine lstep (wpO_plain rfl (op_move hs none rfl rfl rfl rfl fun ac hs => ?_))
        refine lstep (wpO_plain rfl (op_extract hs none rfl rfl rfl rfl rfl fun ac hs => ?_))
        refine lstep (wpO_plain rfl (op_extract hs none rfl rfl rfl rfl rfl fun ac hs => ?_))
        refine lstep (wpO_plain rfl (op_alloc hs none none (cs := (tab .u8 32 (fun _ => 0))) rfl rfl Try.zeroValue30 (by kernel_rfl) rfl rfl fun g16 ac w hs => ?_))
        refine lstep (wpO_plain rfl (op_store hs 5 (vs := (tab .u8 32 (sK v7))) rfl rfl rfl rfl rfl Try.sizeOf30 (by kernel_rfl) tab_length' (tab_one _ _ _) tab_leA wr_tab fun w hs => ?_))
        refine lstep (wpO_plain rfl (op_assign hs none rfl rfl rfl rfl fun ac hs => ?_))
        refine wpList_nil ?_
        have he3 : er13 = 0 := her13.symm.trans ht1
        have he4 : er15 = 0 := her15.symm.trans ht2
        refine then_n ?_
        refine wp_seq ?_
        refine wp_seq ?_
        replace hs : St 90 ⟨w0, [], [(true, .cel (.slice ad l.length c) l.length (bcs l))], Z, noX⟩ [(2, true, .slice ad l.length c), (4, true, .pointer (some ⟨g2, 0, none⟩)), (6, true, .bool false), (9, true, .pointer (some ⟨g9, 0, none⟩)), (11, true, .pointer (some ⟨g14, 0, none⟩)), (13, true, .int .i64 ((er13 : Nat) : Int)), (14, true, .pointer (some ⟨g16, 0, none⟩)), (15, true, .int .i64 ((er15 : Nat) : Int))] [(true, g1, 24, (Wl s)), (true, g2, 24, (Wl k)), (true, g6, 30, (tab .u8 32 (sK s))), (true, g9, 24, (Wl v7)), (true, g14, 30, (tab .u8 32 (tuK (sK s) l))), (true, g16, 30, (tab .u8 32 (sK v7)))] ac _ := hs.re ⟨rfl, rfl, rfl, rfl, rfl, rfl, rfl, rfl, trivial⟩
        refine wp_region_lit ?_
        refine lstep (wpO_plain rfl (op_move hs none rfl rfl rfl rfl fun ac hs => ?_))
        refine lstep (wpO_plain rfl (op_bin hs none (v := .bool false) rfl rfl rfl rfl (fun _ => rfl) (fun w => dF (fun hh => hh he3) (bin_neqN (x := er13) (y := 0) w)) rfl fun ac hs => ?_))
        refine lstep (wpO_plain rfl (op_move hs none rfl rfl rfl rfl fun ac hs => ?_))
        refine lstep (wpO_in hs rfl rfl rfl (op_move hs none rfl rfl rfl rfl fun ac hs => ?_))
        refine lstep (wpO_in hs rfl rfl rfl (op_bin hs none (v := .bool false) rfl rfl rfl rfl (fun _ => rfl) (fun w => dF (fun hh => hh he4) (bin_neqN (x := er15) (y := 0) w)) rfl fun ac hs => ?_))
        refine lstep (wpO_plain rfl (op_pickF hs none rfl rfl rfl rfl rfl fun ac hs => ?_))
        refine lstep (wpO_plain rfl (op_move hs none rfl rfl rfl rfl fun ac hs => ?_))
        refine lstep (wpO_in hs rfl rfl rfl (op_load hs none 4 (v := At .u8 32 (tuK (sK s) l)) rfl rfl rfl rfl Try.isAgg30 Try.sizeOf30 ldv_tab rfl fun ac hs => ?_))
        refine lstep (wpO_in hs rfl rfl rfl (op_load hs none 5 (v := At .u8 32 (sK v7)) rfl rfl rfl rfl Try.isAgg30 Try.sizeOf30 ldv_tab rfl fun ac hs => ?_))
        refine lstep (wpO_in hs rfl rfl rfl (op_bin hs none (v := .bool false) rfl rfl rfl rfl (fun w => run_eqGuard_agg w .neq 30 _ _ _ _ Try.eqGuardType30) (neqAt Try.underlying30 Try.underlying5 inf_u8_5 (by kernel_rfl) Try.isAgg5 (fun j _ => by rw [ht3])) rfl fun ac hs => ?_))
        refine lstep (wpO_plain rfl (op_pickF hs none rfl rfl rfl rfl rfl fun ac hs => ?_))
        refine wpList_nil ?_
        refine then_n ?_
        refine wp_cond_false (hs.ev rfl) ?_
        refine wp_skip ?_
        refine then_n ?_
        refine wp_seq ?_
        replace hs : St 90 ⟨w0, [], [(true, .cel (.slice ad l.length c) l.length (bcs l))], Z, noX⟩ [(2, true, .slice ad l.length c), (4, true, .pointer (some ⟨g2, 0, none⟩)), (6, true, .bool false), (9, true, .pointer (some ⟨g9, 0, none⟩)), (11, true, .pointer (some ⟨g14, 0, none⟩))] [(true, g1, 24, (Wl s)), (true, g2, 24, (Wl k)), (true, g6, 30, (tab .u8 32 (sK s))), (true, g9, 24, (Wl v7)), (true, g14, 30, (tab .u8 32 (tuK (sK s) l))), (true, g16, 30, (tab .u8 32 (sK v7)))] ac _ := hs.re ⟨rfl, rfl, rfl, rfl, rfl, trivial⟩
        refine wp_region_lit ?_
        refine lstep (wpO_plain rfl (op_load hs none 3 (v := W v7) rfl rfl rfl rfl Try.isAgg24 Try.sizeOf24 rfl rfl fun ac hs => ?_))
        refine lstep (wpO_plain rfl (op_load hs none 1 (v := W k) rfl rfl rfl rfl Try.isAgg24 Try.sizeOf24 rfl rfl fun ac hs => ?_))
        refine lstep (wpO_plain rfl (op_move hs none rfl rfl rfl rfl fun ac hs => ?_))
        obtain ⟨b17, hb17⟩ : ∃ z0, sgB v7 k l = z0 := ⟨_, rfl⟩
        obtain ⟨er18, her18⟩ : ∃ z0, sgE v7 k = z0 := ⟨_, rfl⟩
        have lb17 := sgB_len v7 k l
        rw [hb17] at lb17
        refine lstep (wpO_plain rfl (op_callS (F := 6) (ρ := Option Addr × Nat) hs none none (v := fun r => .tuple #[.slice r.1 b17.length r.2, .int .i64 ((er18 : Nat) : Int)]) (E := fun r => [.cel (.slice r.1 b17.length r.2) b17.length (bcs b17)]) (j := 1) rfl rfl rfl rfl (Try.call6 _) (fun hs => sign_c v7 k ad l.length c l b17 er18 lv7 hk0 (show l.length ≤ 1000 by omega) hb17 her18 _ _ (hs.all (k := 0) rfl rfl)) (fun _ => rfl) rfl rfl fun ⟨ad19, cp20⟩ ac w hs => ?_))
        refine lstep (wpO_plain rfl (op_move hs none rfl rfl rfl rfl fun ac hs => ?_))
        refine lstep (wpO_plain rfl (op_extract hs none rfl rfl rfl rfl rfl fun ac hs => ?_))
        refine lstep (wpO_plain rfl (op_extract hs none rfl rfl rfl rfl rfl fun ac hs => ?_))
        refine lstep (wpO_plain rfl (op_assign hs none rfl rfl rfl rfl fun ac hs => ?_))
        refine lstep (wpO_plain rfl (op_assign hs none rfl rfl rfl rfl fun ac hs => ?_))
        refine wpList_nil ?_
        refine then_n ?_
        refine wp_seq ?_
        by_cases hq21 : er18 = 1
        · skip
          replace hs : St 90 ⟨w0, [], [(true, .cel (.slice ad l.length c) l.length (bcs l)), (true, .cel (.slice ad19 b17.length cp20) b17.length (bcs b17))], Z, noX⟩ [(2, true, .slice ad l.length c), (6, true, .bool false), (11, true, .pointer (some ⟨g14, 0, none⟩)), (16, true, .slice ad19 b17.length cp20), (17, true, .int .i64 ((er18 : Nat) : Int))] [(true, g1, 24, (Wl s)), (true, g2, 24, (Wl k)), (true, g6, 30, (tab .u8 32 (sK s))), (true, g9, 24, (Wl v7)), (true, g14, 30, (tab .u8 32 (tuK (sK s) l))), (true, g16, 30, (tab .u8 32 (sK v7)))] ac _ := hs.re ⟨rfl, rfl, rfl, rfl, rfl, trivial⟩
          refine wp_region_lit ?_
          refine lstep (wpO_plain rfl (op_call (F := 5) hs none (v := .bool true) rfl rfl rfl rfl (Try.call5 _) alive_c rfl fun ac w hs => ?_))
          refine lstep (wpO_plain rfl (op_move hs none rfl rfl rfl rfl fun ac hs => ?_))
          refine lstep (wpO_in hs rfl rfl rfl (op_move hs none rfl rfl rfl rfl fun ac hs => ?_))
          refine lstep (wpO_in hs rfl rfl rfl (op_bin hs none (v := .bool true) rfl rfl rfl rfl (fun _ => rfl) (fun w => dT hq21 (bin_eqlN (x := er18) (y := 1) w)) rfl fun ac hs => ?_))
          refine lstep (wpO_in hs rfl rfl rfl (op_move hs none rfl rfl rfl rfl fun ac hs => ?_))
          refine lstep (wpO_out hs none rfl rfl (.inl rfl) rfl rfl fun ac hs => ?_)
          refine lstep (wpO_out hs none rfl rfl (.inl rfl) rfl rfl fun ac hs => ?_)
          refine lstep (wpO_out hs none rfl rfl (.inl rfl) rfl rfl fun ac hs => ?_)
          refine lstep (wpO_out hs none rfl rfl (.inl rfl) rfl rfl fun ac hs => ?_)
          refine lstep (wpO_in hs rfl rfl rfl (op_pickT hs none rfl rfl rfl rfl rfl fun ac hs => ?_))
          refine lstep (wpO_plain rfl (op_pickT hs none rfl rfl rfl rfl rfl fun ac hs => ?_))
          refine lstep (wpO_plain rfl (op_assign hs none rfl rfl rfl rfl fun ac hs => ?_))
          refine wpList_nil ?_
          refine then_n ?_
          refine wp_ret ?_
          exact bodyPost_ret (res1 rfl (rv_t hs rfl)) hs.defers ⟨(), rfl, hs.bel rfl, okl0⟩
        · skip
          have hsg : sgE v7 k = 0 := Classical.byContradiction fun hh => hq21 (her18.symm.trans (sg_err l hh).2)
          have hvt : verB (tuK (sK s) l) l b17 = true := by rw [ht3, ← hb17]; exact sg_sign l hsg
          replace hs : St 90 ⟨w0, [], [(true, .cel (.slice ad l.length c) l.length (bcs l)), (true, .cel (.slice ad19 b17.length cp20) b17.length (bcs b17))], Z, noX⟩ [(2, true, .slice ad l.length c), (6, true, .bool false), (11, true, .pointer (some ⟨g14, 0, none⟩)), (16, true, .slice ad19 b17.length cp20), (17, true, .int .i64 ((er18 : Nat) : Int))] [(true, g1, 24, (Wl s)), (true, g2, 24, (Wl k)), (true, g6, 30, (tab .u8 32 (sK s))), (true, g9, 24, (Wl v7)), (true, g14, 30, (tab .u8 32 (tuK (sK s) l))), (true, g16, 30, (tab .u8 32 (sK v7)))] ac _ := hs.re ⟨rfl, rfl, rfl, rfl, rfl, trivial⟩
          refine wp_region_lit ?_
          refine lstep (wpO_plain rfl (op_call (F := 5) hs none (v := .bool true) rfl rfl rfl rfl (Try.call5 _) alive_c rfl fun ac w hs => ?_))
          refine lstep (wpO_plain rfl (op_move hs none rfl rfl rfl rfl fun ac hs => ?_))
          refine lstep (wpO_in hs rfl rfl rfl (op_move hs none rfl rfl rfl rfl fun ac hs => ?_))
          refine lstep (wpO_in hs rfl rfl rfl (op_bin hs none (v := .bool false) rfl rfl rfl rfl (fun _ => rfl) (fun w => dF hq21 (bin_eqlN (x := er18) (y := 1) w)) rfl fun ac hs => ?_))
          refine lstep (wpO_in hs rfl rfl rfl (op_move hs none rfl rfl rfl rfl fun ac hs => ?_))
          refine lstep (wpO_in hs rfl rfl rfl (op_load hs none 4 (v := At .u8 32 (tuK (sK s) l)) rfl rfl rfl rfl Try.isAgg30 Try.sizeOf30 ldv_tab rfl fun ac hs => ?_))
          refine lstep (wpO_in hs rfl rfl rfl (op_move hs none rfl rfl rfl rfl fun ac hs => ?_))
          refine lstep (wpO_in hs rfl rfl rfl (op_move hs none rfl rfl rfl rfl fun ac hs => ?_))
          refine lstep (wpO_in hs rfl rfl rfl (op_callS (F := 8) (ρ := Unit) hs none none (v := fun r => .bool true) (E := fun r => []) (j := 0) rfl rfl rfl rfl (Try.call8 _) (fun hs => verify_c (tuK (sK s) l) ad l.length c l ad19 b17.length cp20 b17 true (fun j _ => tuK_lt _ _ j) (show l.length ≤ 1000 by omega) (show b17.length ≤ 1000 by omega) hvt _ _ (hs.all (k := 0) rfl rfl) (hs.all (k := 1) rfl rfl)) (fun _ => rfl) rfl rfl fun _ ac w hs => ?_))
          refine lstep (wpO_in hs rfl rfl rfl (op_pickF hs none rfl rfl rfl rfl rfl fun ac hs => ?_))
          refine lstep (wpO_plain rfl (op_pickT hs none rfl rfl rfl rfl rfl fun ac hs => ?_))
          refine lstep (wpO_plain rfl (op_assign hs none rfl rfl rfl rfl fun ac hs => ?_))
          refine wpList_nil ?_
          refine then_n ?_
          refine wp_ret ?_
          exact bodyPost_ret (res1 rfl (rv_t hs rfl)) hs.defers ⟨(), rfl, hs.bel rfl, okl0⟩
      · skip
        have hse := ts_err (s := s) (root := l) (.inl (by rw [her8]; exact hq11))
        rw [hv7, her8] at hse
        replace hs : St 90 ⟨w0, [], [(true, .cel (.slice ad l.length c) l.length (bcs l))], Z, noX⟩ [(2, true, .slice ad l.length c), (4, true, .pointer (some ⟨g2, 0, none⟩)), (6, true, .bool false), (7, true, .pointer (some ⟨g6, 0, none⟩)), (8, true, .int .i64 ((er5 : Nat) : Int)), (9, true, .pointer (some ⟨g9, 0, none⟩)), (10, true, .int .i64 ((er8 : Nat) : Int))] [(true, g1, 24, (Wl s)), (true, g2, 24, (Wl k)), (true, g6, 30, (tab .u8 32 (sK s))), (true, g9, 24, (Wl v7))] ac _ := hs.re ⟨rfl, rfl, rfl, rfl, rfl, rfl, rfl, trivial⟩
        refine wp_region_lit ?_
        refine lstep (wpO_plain rfl (op_move hs none rfl rfl rfl rfl fun ac hs => ?_))
        refine lstep (wpO_plain rfl (op_bin hs none (v := .bool false) rfl rfl rfl rfl (fun _ => rfl) (fun w => dF (fun hh => hh hq10) (bin_neqN (x := er5) (y := 0) w)) rfl fun ac hs => ?_))
        refine lstep (wpO_plain rfl (op_move hs none rfl rfl rfl rfl fun ac hs => ?_))
        refine lstep (wpO_in hs rfl rfl rfl (op_move hs none rfl rfl rfl rfl fun ac hs => ?_))
        refine lstep (wpO_in hs rfl rfl rfl (op_bin hs none (v := .bool true) rfl rfl rfl rfl (fun _ => rfl) (fun w => dT hq11 (bin_neqN (x := er8) (y := 0) w)) rfl fun ac hs => ?_))
        refine lstep (wpO_plain rfl (op_pickF hs none rfl rfl rfl rfl rfl fun ac hs => ?_))
        refine wpList_nil ?_
        refine then_n ?_
        refine wp_cond_true (hs.ev rfl) ?_
        refine wp_seq ?_
        replace hs : St 90 ⟨w0, [], [(true, .cel (.slice ad l.length c) l.length (bcs l))], Z, noX⟩ [(2, true, .slice ad l.length c), (4, true, .pointer (some ⟨g2, 0, none⟩)), (6, true, .bool false), (7, true, .pointer (some ⟨g6, 0, none⟩)), (9, true, .pointer (some ⟨g9, 0, none⟩)), (10, true, .int .i64 ((er8 : Nat) : Int))] [(true, g1, 24, (Wl s)), (true, g2, 24, (Wl k)), (true, g6, 30, (tab .u8 32 (sK s))), (true, g9, 24, (Wl v7))] ac _ := hs.re ⟨rfl, rfl, rfl, rfl, rfl, rfl, trivial⟩
        refine wp_region_lit ?_
        refine lstep (wpO_plain rfl (op_call (F := 5) hs none (v := .bool true) rfl rfl rfl rfl (Try.call5 _) alive_c rfl fun ac w hs => ?_))
        refine lstep (wpO_plain rfl (op_move hs none rfl rfl rfl rfl fun ac hs => ?_))
        refine lstep (wpO_in hs rfl rfl rfl (op_move hs none rfl rfl rfl rfl fun ac hs => ?_))
        refine lstep (wpO_in hs rfl rfl rfl (op_bin hs none (v := .bool true) rfl rfl rfl rfl (fun _ => rfl) (fun w => dT hse.2 (bin_eqlN (x := er8) (y := 1) w)) rfl fun ac hs => ?_))
        refine lstep (wpO_plain rfl (op_pickT hs none rfl rfl rfl rfl rfl fun ac hs => ?_))
        refine lstep (wpO_plain rfl (op_move hs none rfl rfl rfl rfl fun ac hs => ?_))
        refine lstep (wpO_in hs rfl rfl rfl (op_load hs none 3 (v := W v7) rfl rfl rfl rfl Try.isAgg24 Try.sizeOf24 rfl rfl fun ac hs => ?_))
        refine lstep (wpO_in hs rfl rfl rfl (op_build hs none (qs := []) (v := .agg #[.int .u64 0, .int .u64 0, .int .u64 0, .int .u64 0]) rfl rfl rfl rfl (fun _ => by kernel_rfl) rfl fun ac hs => ?_))
        refine lstep (wpO_in hs rfl rfl rfl (op_bin hs none (v := .bool (decide (v7 = 0))) rfl rfl rfl rfl (fun w => run_eqGuard_agg w .eql 24 _ _ _ _ Try.eqGuardType24) (eqlW v7 0 lv7 (by decide) _ rfl) rfl fun ac hs => ?_))
        refine lstep (wpO_plain rfl (op_pickT hs none rfl rfl rfl rfl rfl fun ac hs => ?_))
        refine lstep (wpO_plain rfl (op_assign hs none rfl rfl rfl rfl fun ac hs => ?_))
        refine wpList_nil ?_
        refine then_n ?_
        refine wp_ret ?_
        refine then_r ?_
        exact bodyPost_ret (res1 rfl (rv_t hs rfl)) hs.defers ⟨(), by rw [decide_eq_true hse.1], hs.bel rfl, okl0⟩
    · skip
      have hse := ts_err (s := s) (root := l) (.inr (by rw [her5]; exact hq10))
      rw [hv7, her8] at hse
      replace hs : St 90 ⟨w0, [], [(true, .cel (.slice ad l.length c) l.length (bcs l))], Z, noX⟩ [(2, true, .slice ad l.length c), (4, true, .pointer (some ⟨g2, 0, none⟩)), (6, true, .bool false), (7, true, .pointer (some ⟨g6, 0, none⟩)), (8, true, .int .i64 ((er5 : Nat) : Int)), (9, true, .pointer (some ⟨g9, 0, none⟩)), (10, true, .int .i64 ((er8 : Nat) : Int))] [(true, g1, 24, (Wl s)), (true, g2, 24, (Wl k)), (true, g6, 30, (tab .u8 32 (sK s))), (true, g9, 24, (Wl v7))] ac _ := hs.re ⟨rfl, rfl, rfl, rfl, rfl, rfl, rfl, trivial⟩
      refine wp_region_lit ?_
      refine lstep (wpO_plain rfl (op_move hs none rfl rfl rfl rfl fun ac hs => ?_))
      refine lstep (wpO_plain rfl (op_bin hs none (v := .bool true) rfl rfl rfl rfl (fun _ => rfl) (fun w => dT hq10 (bin_neqN (x := er5) (y := 0) w)) rfl fun ac hs => ?_))
      refine lstep (wpO_plain rfl (op_move hs none rfl rfl rfl rfl fun ac hs => ?_))
      refine lstep (wpO_out hs none rfl rfl (.inl rfl) rfl rfl fun ac hs => ?_)
      refine lstep (wpO_out hs none rfl rfl (.inl rfl) rfl rfl fun ac hs => ?_)
      refine lstep (wpO_plain rfl (op_pickT hs none rfl rfl rfl rfl rfl fun ac hs => ?_))
      refine wpList_nil ?_
      refine then_n ?_
      refine wp_cond_true (hs.ev rfl) ?_
      refine wp_seq ?_
      refine wp_region_lit ?_
      refine lstep (wpO_plain rfl (op_call (F := 5) hs none (v := .bool true) rfl rfl rfl rfl (Try.call5 _) alive_c rfl fun ac w hs => ?_))
      refine lstep (wpO_plain rfl (op_move hs none rfl rfl rfl rfl fun ac hs => ?_))
      refine lstep (wpO_in hs rfl rfl rfl (op_move hs none rfl rfl rfl rfl fun ac hs => ?_))
      refine lstep (wpO_in hs rfl rfl rfl (op_bin hs none (v := .bool true) rfl rfl rfl rfl (fun _ => rfl) (fun w => dT hse.2 (bin_eqlN (x := er8) (y := 1) w)) rfl fun ac hs => ?_))
      refine lstep (wpO_plain rfl (op_pickT hs none rfl rfl rfl rfl rfl fun ac hs => ?_))
      refine lstep (wpO_plain rfl (op_move hs none rfl rfl rfl rfl fun ac hs => ?_))
      refine lstep (wpO_in hs rfl rfl rfl (op_load hs none 3 (v := W v7) rfl rfl rfl rfl Try.isAgg24 Try.sizeOf24 rfl rfl fun ac hs => ?_))
      refine lstep (wpO_in hs rfl rfl rfl (op_build hs none (qs := []) (v := .agg #[.int .u64 0, .int .u64 0, .int .u64 0, .int .u64 0]) rfl rfl rfl rfl (fun _ => by kernel_rfl) rfl fun ac hs => ?_))
      refine lstep (wpO_in hs rfl rfl rfl (op_bin hs none (v := .bool (decide (v7 = 0))) rfl rfl rfl rfl (fun w => run_eqGuard_agg w .eql 24 _ _ _ _ Try.eqGuardType24) (eqlW v7 0 lv7 (by decide) _ rfl) rfl fun ac hs => ?_))
      refine lstep (wpO_plain rfl (op_pickT hs none rfl rfl rfl rfl rfl fun ac hs => ?_))
      refine lstep (wpO_plain rfl (op_assign hs none rfl rfl rfl rfl fun ac hs => ?_))
      refine wpList_nil ?_
      refine then_n ?_
      refine wp_ret ?_
      refine then_r ?_
      exact bodyPost_ret (res1 rfl (rv_t hs rfl)) hs.defers ⟨(), by rw [decide_eq_true hse.1], hs.bel rfl, okl0⟩
end Go.Proofs.Ytejbajgpiecjcaa

/- Arguments opened, and read again behind a call that writes nothing that was there: lemmas of whatever program. -/
namespace Go.Proofs.Ytejbajgpiecjcaa
open Go.ChangeShapes Go.WideShapes Go.ChangeAt Go.RowKit

section
variable {H : Type} {enc : TypeId × Value → H} {P : Program}
/-- all arguments read behind the call as they did -/
theorem trodAll_below (hl : laidOutB P = true) {W W' : World} (hb : Below W.heap.size W W') : ∀ (ts : List TypeId) (vs : List Value) (ds : List (DataW H)) (ps : List MemPlace),
    ts.all (fun t => P.readableRec t && decide (t < P.types.size)) = true → DataW.TrodAll enc P W 0 (fun _ => true) true ts vs ds ps → DataW.TrodAll enc P W' 0 (fun b => decide (b < W.heap.size)) true ts vs ds ps := by
  intro ts
  induction ts with
  | nil =>
    intro vs ds ps _ h
    obtain ⟨rfl, rfl, rfl⟩ := trodAll_nil h
    exact trodAll_mk0
  | cons t ts ih =>
    intro vs ds ps hts h
    obtain ⟨v, vs0, d, ds0, p, q, rfl, rfl, rfl, h0, r0⟩ := trodAll_cons h
    simp only [List.all_cons, Bool.and_eq_true, decide_eq_true_eq] at hts
    obtain ⟨⟨hr, ht⟩, hts⟩ := hts
    have lt0 : ∀ x ∈ p, x.block < W.heap.size := by obtain ⟨m, hm⟩ := h0; exact DataW.trod_lt m _ _ _ hm
    exact trodAll_cons_mk (Below.trod hl hr ht h0 hb lt0) (ih _ _ _ hts r0)
end

/-- a slice value that reads as bytes, of whatever length -/
def RdN (w : World) (a : Option Addr) (l : List UInt8) : Prop :=
  l.length ≠ 0 → ∃ b off, a = some ⟨b, off, none⟩ ∧ ∀ k, k < l.length → w.cell? ⟨b, off + k, none⟩ = some (.int .u8 ((l.getD k 0).toNat : Int))

theorem open_bytes {H : Type} {enc : TypeId × Value → H} {P : Program} {W : World} {base : Nat} {held : Bool} {t e : TypeId} {v : Value} {d : DataW H} {p : List MemPlace} (ht : P.underlying t = some (.slice e)) (he : P.underlying e = some (.int .u8)) (hc : P.cellsOf e = 1)
    (hv : Value.okWide P W .any 0 t v) (h : DataW.Trod enc P W base (fun _ => true) held t v d p) : ∃ a cap l, v = .slice a l.length cap ∧ RdN W a l ∧ l.length ≤ cap ∧ (a = none → cap = 0) := by
  obtain ⟨a, len, cap, rfl⟩ := okWide_slice ht hv
  obtain ⟨fuel, hf⟩ := h
  rcases open_ints ht he hc hf with ⟨hcs, _⟩ | ⟨x, l, c, zs, hcs, _, hl, hm, hz, _, hcell, hwz⟩
  · simp [Value.cells] at hcs
    obtain ⟨rfl, rfl, rfl⟩ := hcs
    exact ⟨none, 0, [], rfl, fun h => absurd rfl h, Nat.le_refl _, fun _ => rfl⟩
  · simp [Value.cells] at hcs
    obtain ⟨rfl, rfl, rfl⟩ := hcs
    rw [if_pos rfl] at hz
    have hlen : ((zs.take len).map fun z => UInt8.ofNat z.toNat).length = len := by simp; omega
    refine ⟨some x, cap, (zs.take len).map fun z => UInt8.ofNat z.toNat, by rw [hlen], fun h0 => ?_, by rw [hlen]; exact hl, fun h => by cases h⟩
    rw [hlen] at h0
    obtain ⟨b, off, rfl, hcc⟩ := ints_at hcell (by omega)
    refine ⟨b, off, rfl, fun k hk => ?_⟩
    rw [hlen] at hk
    have hkz : k < zs.length := by omega
    have h1 := hcell k hkz
    have hz1 : zs[k] ∈ zs := List.getElem_mem hkz
    have hw := hwz _ hz1
    have hb := bounds_u8 hw
    have e1 : (((zs.take len).map fun z => UInt8.ofNat z.toNat).getD k 0).toNat = zs[k].toNat := by
      rw [List.getD_eq_getElem?_getD, List.getElem?_map, List.getElem?_take_of_lt hk, List.getElem?_eq_getElem hkz]
      simp
      omega
    rw [e1]
    have e2 : zs.getD k 0 = zs[k] := by simp [List.getD, hkz]
    rw [e2] at h1
    have e3 : ((zs[k].toNat : Nat) : Int) = zs[k] := by omega
    rw [e3, ← h1]
    simp [Addr.add]
    by_cases hk0 : k = 0 <;> simp [hk0]
end Go.Proofs.Ytejbajgpiecjcaa

/- Arguments that are arrays of integers, opened: numbers of 256 bits, 32 bytes. -/
set_option maxRecDepth 100000
namespace Go.Proofs.Ytejbajgpiecjcaa
open Go.ChangeShapes Go.WideShapes Go.ChangeAt Go.RowKit Go.WideMaps

section
variable {H : Type} {enc : TypeId × Value → H} {P : Program} {k e : TypeId} {n : Nat} {q : IntKind} {W : World} {base : Nat} {sp : Nat → Bool} {held : Bool}
theorem open_ints_arr (A : ArrKey P k e n) (he : P.underlying e = some (.int q)) {v : Value} {d : DataW H} {ps : List MemPlace} (hval : Value.okWide P W .any 0 k v) (hd : DataW.Trod enc P W base sp held k v d ps) :
    ∃ xs : Array Value, v = .agg xs ∧ xs.size = n ∧ ∀ i, i < n → ∃ z, xs[i]? = some (.int q z) ∧ (Lit.int q z).wf = true := by
  obtain ⟨xs, rfl, hn⟩ := okWide_arr A hval
  refine ⟨xs, rfl, hn, fun i hi => ?_⟩
  obtain ⟨fuel, hf⟩ := hd
  cases fuel with
  | zero => simp [DataW.trod] at hf
  | succ m =>
    rw [DataW.trod_step] at hf
    unfold DataW.trodStep at hf
    simp only [A.hu, Value.cells] at hf
    rw [if_pos (by rw [A.size]; simpa using hn)] at hf
    simp only [Option.map_eq_some_iff] at hf
    obtain ⟨ys, hy, _⟩ := hf
    obtain ⟨y, hy⟩ := mapM_each hy i (by simpa using hi)
    obtain ⟨z, hz, _, hw⟩ := DataW.trod_int he hy
    rw [A.one, Nat.mul_one] at hz
    refine ⟨z, ?_, hw⟩
    have := congrArg (·[0]?) hz
    simpa [List.getElem?_take] using this
end
theorem wide_key : ArrKey Try.prog 24 22 4 := ⟨Try.underlying24, by kernel_rfl, by kernel_rfl, by kernel_rfl⟩
theorem lim_sum (a b c d : Nat) (ha : a < 2 ^ 64) (hb : b < 2 ^ 64) (hc : c < 2 ^ 64) (hd : d < 2 ^ 64) :
    lim (a + 2 ^ 64 * b + 2 ^ 128 * c + 2 ^ 192 * d) 0 = a ∧ lim (a + 2 ^ 64 * b + 2 ^ 128 * c + 2 ^ 192 * d) 1 = b ∧ lim (a + 2 ^ 64 * b + 2 ^ 128 * c + 2 ^ 192 * d) 2 = c ∧ lim (a + 2 ^ 64 * b + 2 ^ 128 * c + 2 ^ 192 * d) 3 = d := by
  unfold lim
  refine ⟨?_, ?_, ?_, ?_⟩ <;> exact congrArg Int.ofNat (by omega)
theorem open_wide {H : Type} {enc : TypeId × Value → H} {w : World} {base : Nat} {sp : Nat → Bool} {held : Bool} {v : Value} {d : DataW H} {ps : List MemPlace} (hval : Value.okWide Try.prog w .any 0 24 v) (hd : DataW.Trod enc Try.prog w base sp held 24 v d ps) :
    ∃ n, v = W n ∧ n < 2 ^ 256 := by
  obtain ⟨xs, rfl, hn, hx⟩ := open_ints_arr wide_key (q := .u64) Try.underlying22 hval hd
  obtain ⟨z0, e0, b0⟩ := hx 0 (by omega)
  obtain ⟨z1, e1, b1⟩ := hx 1 (by omega)
  obtain ⟨z2, e2, b2⟩ := hx 2 (by omega)
  obtain ⟨z3, e3, b3⟩ := hx 3 (by omega)
  have c0 := bounds_u64 b0
  have c1 := bounds_u64 b1
  have c2 := bounds_u64 b2
  have c3 := bounds_u64 b3
  obtain ⟨y0, rfl⟩ := Int.eq_ofNat_of_zero_le c0.1
  obtain ⟨y1, rfl⟩ := Int.eq_ofNat_of_zero_le c1.1
  obtain ⟨y2, rfl⟩ := Int.eq_ofNat_of_zero_le c2.1
  obtain ⟨y3, rfl⟩ := Int.eq_ofNat_of_zero_le c3.1
  obtain ⟨s0, s1, s2, s3⟩ := lim_sum y0 y1 y2 y3 (by omega) (by omega) (by omega) (by omega)
  refine ⟨y0 + 2 ^ 64 * y1 + 2 ^ 128 * y2 + 2 ^ 192 * y3, ?_, by omega⟩
  unfold W
  rw [s0, s1, s2, s3]
  congr 1
  apply Array.ext_getElem?
  intro i
  match i with
  | 0 => simpa using e0
  | 1 => simpa using e1
  | 2 => simpa using e2
  | 3 => simpa using e3
  | i + 4 => rw [Array.getElem?_eq_none (by omega), Array.getElem?_eq_none (by simp)]
end Go.Proofs.Ytejbajgpiecjcaa

/- Arguments that lie in memory, opened as entries: byte strings, rows. -/
namespace Go.Proofs.Ytejbajgpiecjcaa
open Go.ChangeShapes Go.WideShapes Go.ChangeAt Go.RowKit
section
variable {H : Type} {enc : TypeId × Value → H} {P : Program} {w : World} {base : Nat} {sp : Nat → Bool} {held : Bool}
theorem trod_bytes {t e : TypeId} {m : Nat} {cs : List Value} {x : DataW H × List MemPlace} (ht : P.underlying t = some (.slice e)) (he : P.underlying e = some (.int .u8)) (hc : P.cellsOf e = 1)
    (h : DataW.trod enc P w base sp held m t cs = some x) : ∃ a c l, cs = [.slice a l.length c] ∧ ByV w (fun _ => True) (.slice a l.length c) l := by
  rcases open_ints ht he hc h with ⟨rfl, _⟩ | ⟨x, len, c, zs, rfl, _, hl, hm, hz, _, hcell, hwz⟩
  · exact ⟨none, 0, [], rfl, celv_nil⟩
  · have hzl : len ≤ zs.length := by rw [hz]; split <;> omega
    have hlen : ((zs.take len).map fun z => UInt8.ofNat z.toNat).length = len := by simp; omega
    refine ⟨some x, c, (zs.take len).map fun z => UInt8.ofNat z.toNat, by rw [hlen], ⟨some x, c, by rw [hlen], by rw [hlen]; exact hl, hm, (fun h => by cases h), fun j u hu => ?_⟩⟩
    have hj : j < len := by
      have := (List.getElem?_eq_some_iff.1 hu).1
      rw [bcs_length, hlen] at this; exact this
    obtain ⟨b, off, rfl, hcc⟩ := ints_at hcell (by omega)
    refine ⟨b, off, rfl, trivial, ?_⟩
    have hjz : j < zs.length := by omega
    rw [hcc j hjz]
    have hb := bounds_u8 (hwz _ (List.getElem_mem hjz))
    rw [bcs_get (by rw [hlen]; exact hj)] at hu
    have e1 : ((byt ((zs.take len).map fun z => UInt8.ofNat z.toNat) j : Nat) : Int) = zs[j] := by
      unfold byt
      rw [List.getD_eq_getElem?_getD, List.getElem?_map, List.getElem?_take_of_lt hj, List.getElem?_eq_getElem hjz]
      simp
      omega
    rw [e1] at hu
    rw [← hu]
    simp [List.getD, hjz]
theorem open_by {t e : TypeId} {v : Value} {d : DataW H} {p : List MemPlace} (ht : P.underlying t = some (.slice e)) (he : P.underlying e = some (.int .u8)) (hc : P.cellsOf e = 1)
    (hv : Value.okWide P w .any 0 t v) (h : DataW.Trod enc P w base sp held t v d p) : ∃ a c l, v = .slice a l.length c ∧ ByV w (fun _ => True) (.slice a l.length c) l := by
  obtain ⟨a, len, cap, rfl⟩ := okWide_slice ht hv
  obtain ⟨fuel, hf⟩ := h
  obtain ⟨a', c, l, h1, h2⟩ := trod_bytes ht he hc hf
  simp [Value.cells] at h1
  obtain ⟨rfl, rfl, rfl⟩ := h1
  exact ⟨_, _, _, rfl, h2⟩
theorem choose_list {α : Type} (n : Nat) (R : Nat → α → Prop) (h : ∀ i, i < n → ∃ x, R i x) : ∃ l : List α, l.length = n ∧ ∀ i x, l[i]? = some x → R i x := by
  induction n with
  | zero => exact ⟨[], rfl, fun i x hx => by simp at hx⟩
  | succ n ih =>
    obtain ⟨l, hl, hr⟩ := ih fun i hi => h i (by omega)
    obtain ⟨x, hx⟩ := h n (by omega)
    refine ⟨l ++ [x], by simp [hl], fun i y hy => ?_⟩
    by_cases hi : i < n
    · rw [List.getElem?_append_left (by omega)] at hy; exact hr i y hy
    · have := (List.getElem?_eq_some_iff.1 hy).1
      simp at this
      obtain rfl : i = n := by omega
      rw [List.getElem?_append_right (by omega), hl] at hy
      simp at hy
      subst hy; exact hx
theorem cell_spot {a : Addr} {v : Value} (h : w.cell? a = some v) : ∃ b off, a = ⟨b, off, none⟩ := by
  obtain ⟨b, off, spot⟩ := a
  have hspot : spot = none := World.cell?_spot h
  subst hspot
  exact ⟨b, off, rfl⟩
/-- a row, element by element -/
theorem trod_row {t e : TypeId} {m z : Nat} {cs : List Value} {x : DataW H × List MemPlace} (ht : P.underlying t = some (.slice e)) (hz : P.cellsOf e = z)
    (h : DataW.trod enc P w base sp held m t cs = some x) : ∃ a len c, cs = [.slice a len c] ∧ len ≤ c ∧ c ≤ maxLen ∧ (a = none → c = 0) ∧
      ∀ i, i < len → ∃ ad n ys y, a = some ad ∧ ys.length = z ∧ (∀ j, j < z → w.cell? (ad.add (i * z + j)) = ys[j]?) ∧ DataW.trod enc P w base sp held n e ys = some y := by
  rcases DataW.trod_slice ht h with ⟨rfl, _⟩ | ⟨a, len, cap, elems, rest, n, _, rfl, _, hb, hl, hm, hlen, hel, _, _⟩
  · exact ⟨none, 0, 0, rfl, Nat.le_refl _, Nat.zero_le _, fun _ => rfl, fun i hi => absurd hi (by omega)⟩
  · refine ⟨some a, len, cap, rfl, hl, hm, (fun h => by cases h), fun i hi => ?_⟩
    have h1 := hel i hi
    rw [List.getElem?_eq_getElem (by omega), hz, Option.bind_eq_some_iff] at h1
    obtain ⟨ys, hys, hy⟩ := h1
    obtain ⟨_, h2, h3⟩ := World.cells?_some hys
    refine ⟨a, n, ys, _, rfl, h2, fun j hj => ?_, hy⟩
    rw [← h3 j hj, Addr.add_add]
end
end Go.Proofs.Ytejbajgpiecjcaa
