/- Several texts in one, what this law needs of them: StkD, StkQ, StkV, StkL, StkB2, StkM, NumE, StkN0, StkN, Frame, FrameN. -/
import Derived.Test.YtikkhkjndbicgaaTC5
import Derived.Test.YtikkhkjndbicgaaRows
import Derived.WalkKit
import Derived.ProofKit
import Derived.OpenShut
import Derived.ChangeOld
import Derived.Below

/- Stacks: the functions that all layers call. -/
namespace Go.Proofs.Ytikkhkjndbicgaa
open Go.RowKit
set_option maxRecDepth 10000
set_option maxHeartbeats 1000000
theorem load_c (am : Option Addr) (cm : Nat) (vs : List Value) (aa : Option Addr) (ca : Nat) (us : List Value) (ks js : BL)  (ok : OkN 8000 ks) (oj : OkN 8000 js)  (w0 : World) (Z X : Nat → Prop) (hm : Mem ⟨w0, [], [(true, .cel (.slice am ks.length cm) ks.length vs), (true, .bys vs ks), (true, .cel (.slice aa js.length ca) js.length us), (true, .bys us js)], Z, X⟩ [] w0) : Calls Try.prog 26 #[.agg #[.slice am ks.length cm, .slice aa js.length ca]] w0 fun e w' => PostX w0 Z X (ρ := M2g) (fun r => .pointer (some ⟨r.o, 0, none⟩)) (fun r => [(true, r.o, 61, [.slice r.a ks.length r.c, .slice r.b js.length r.d, .int .i64 ((0 : Nat) : Int)])]) (fun r => [(true, .cel (.slice am ks.length cm) ks.length vs), (true, .bys vs ks), (true, .cel (.slice aa js.length ca) js.length us), (true, .bys us js), (true, .own (.slice r.a ks.length r.c) 34 1 ks.length r.vs), (true, .own (.slice r.b js.length r.d) 34 1 js.length r.us), (true, .bysO r.G (r.vs ++ r.us ++ []) (ks ++ js ++ []))]) e w' := by
  have hk8 : ks.length ≤ 8000 := ok.1
  have hj8 : js.length ≤ 8000 := oj.1
  refine enterX (n := 11) (args := [.agg #[.slice am ks.length cm, .slice aa js.length ca]]) Try.func26 rfl rfl (Nat.le_of_ble_eq_true rfl) hm fun ac hs => ?_
  refine wp_seq ?_
  refine wp_region_lit ?_
  refine lstep (wpO_plain rfl (op_box hs none none (cs := [.slice am ks.length cm, .slice aa js.length ca]) rfl rfl rfl rfl rfl rfl fun g1 ac w hs => ?_))
  refine lstep (wpO_plain rfl (op_assign hs none rfl rfl rfl rfl fun ac hs => ?_))
  refine wpList_nil ?_
  refine then_n ?_
  refine wp_seq ?_
  replace hs : St 11 ⟨w0, [], [(true, .cel (.slice am ks.length cm) ks.length vs), (true, .bys vs ks), (true, .cel (.slice aa js.length ca) js.length us), (true, .bys us js)], Z, X⟩ [(1, true, .pointer (some ⟨g1, 0, none⟩)), (2, true, .pointer none)] [(true, g1, 24, [.slice am ks.length cm, .slice aa js.length ca])] ac _ := hs.re ⟨rfl, rfl, trivial⟩
  refine region_inv [([], [1, 2, 5, 6, 7, 8]), ([0], [2, 5, 6, 7, 8]), ([0, 1], [5, 6, 7, 8]), ([], [4, 5, 6, 7, 8]), ([3], [5, 6, 7, 8]), ([0, 1, 2, 3, 4], [6, 7, 8]), ([0, 1, 2, 3, 4, 5], [7, 8]), ([0, 1, 2, 3, 4, 5, 6], [8]), ([0, 1, 2, 3, 4, 5, 6, 7], [])] (fun L ac w => ∃ (g10 : Nat) (ad2 : Option Addr) (cp3 : Nat) (us4 : List Value) (G5 : Nat → Prop) (ad6 : Option Addr) (cp7 : Nat) (us8 : List Value) (G9 : Nat → Prop), St 11 ⟨w0, [], [(true, .cel (.slice am ks.length cm) ks.length vs), (true, .bys vs ks), (true, .cel (.slice aa js.length ca) js.length us), (true, .bys us js), (L 2, .own (.slice ad2 ks.length cp3) 34 1 ks.length us4), (L 2, .bysO G5 us4 ks), (L 5, .own (.slice ad6 js.length cp7) 34 1 js.length us8), (L 5, .bysO G9 us8 js)], Z, X⟩ [(3, L 0, .pointer (some ⟨g1, 0, none⟩)), (4, L 1, .slice am ks.length cm), (5, L 2, .slice ad2 ks.length cp3), (6, L 3, .pointer (some ⟨g1, 1, none⟩)), (7, L 4, .slice aa js.length ca), (8, L 5, .slice ad6 js.length cp7), (9, L 6, cond (L 6) (.agg #[.slice ad2 ks.length cp3, .slice ad6 js.length cp7, .int .i64 0]) undef), (10, L 7, .pointer (some ⟨g10, 0, none⟩)), (2, L 8, cond (L 8) (.pointer (some ⟨g10, 0, none⟩)) undef), (1, true, .pointer (some ⟨g1, 0, none⟩)), (2, true, .pointer none)] [(true, g1, 24, [.slice am ks.length cm, .slice aa js.length ca]), (L 7, g10, 61, (cond (L 7) [.slice ad2 ks.length cp3, .slice ad6 js.length cp7, .int .i64 0] []))] ac w) (by kernel_rfl) (by kernel_rfl) ?_ ?_ ?_
  · exact ⟨0, none, 0, [], noX, none, 0, [], noX, hs.drew.skip.skip.skip.skip.skip.skip.skip.skip.skip.pad.padS.padS.padS.padS⟩
  · refine ⟨?_, ?_, ?_, ?_, ?_, ?_, ?_, ?_, ?_, trivial⟩
    · intro L ac w hJ
      obtain ⟨g10, ad2, cp3, us4, G5, ad6, cp7, us8, G9, hs⟩ := hJ
      refine wpO_plain rfl (op_fieldA hs (some 0) rfl rfl rfl Try.underlying24 rfl Try.sizeOf22 (by decide) rfl fun ac hs => ?_)
      exact ⟨g10, ad2, cp3, us4, G5, ad6, cp7, us8, G9, hs⟩
    · intro L ac w hJ
      obtain ⟨g10, ad2, cp3, us4, G5, ad6, cp7, us8, G9, hs⟩ := hJ
      refine wpO_plain rfl (op_load hs (some 1) 0 (v := .slice am ks.length cm) rfl rfl rfl rfl Try.isAgg22 Try.sizeOf22 rfl rfl fun ac hs => ?_)
      exact ⟨g10, ad2, cp3, us4, G5, ad6, cp7, us8, G9, hs⟩
    · intro L ac w hJ
      obtain ⟨g10, ad2, cp3, us4, G5, ad6, cp7, us8, G9, hs⟩ := hJ
      refine wpO_plain rfl (op_callV (F := 42) (ρ := M1) hs (some 2) (some 4) (v := fun r => .slice r.a ks.length r.c) (E := fun r => [.own (.slice r.a ks.length r.c) 34 1 ks.length r.vs, .bysO r.G r.vs ks]) (j := 2) rfl rfl rfl rfl (Try.call42 _) (fun hs => own_c am ks.length cm vs ks ok _ _ (hs.celT (k := 0) rfl) rfl (hs.rowB (k := 1) (G := noX) (.inr rfl))) (fun _ => rfl) (fun _ => rfl) rfl rfl fun ⟨ad2, cp3, us4, G5⟩ ac w hs => ?_)
      exact ⟨g10, ad2, cp3, us4, G5, ad6, cp7, us8, G9, hs⟩
    · intro L ac w hJ
      obtain ⟨g10, ad2, cp3, us4, G5, ad6, cp7, us8, G9, hs⟩ := hJ
      refine wpO_plain rfl (op_fieldA hs (some 3) rfl rfl rfl Try.underlying24 rfl Try.sizeOf22 (by decide) rfl fun ac hs => ?_)
      exact ⟨g10, ad2, cp3, us4, G5, ad6, cp7, us8, G9, hs⟩
    · intro L ac w hJ
      obtain ⟨g10, ad2, cp3, us4, G5, ad6, cp7, us8, G9, hs⟩ := hJ
      refine wpO_plain rfl (op_load hs (some 4) 0 (v := .slice aa js.length ca) rfl rfl rfl rfl Try.isAgg22 Try.sizeOf22 rfl rfl fun ac hs => ?_)
      exact ⟨g10, ad2, cp3, us4, G5, ad6, cp7, us8, G9, hs⟩
    · intro L ac w hJ
      obtain ⟨g10, ad2, cp3, us4, G5, ad6, cp7, us8, G9, hs⟩ := hJ
      refine wpO_plain rfl (op_callV (F := 42) (ρ := M1) hs (some 5) (some 6) (v := fun r => .slice r.a js.length r.c) (E := fun r => [.own (.slice r.a js.length r.c) 34 1 js.length r.vs, .bysO r.G r.vs js]) (j := 2) rfl rfl rfl rfl (Try.call42 _) (fun hs => own_c aa js.length ca us js oj _ _ (hs.celT (k := 2) rfl) rfl (hs.rowB (k := 3) (G := noX) (.inr rfl))) (fun _ => rfl) (fun _ => rfl) rfl rfl fun ⟨ad6, cp7, us8, G9⟩ ac w hs => ?_)
      exact ⟨g10, ad2, cp3, us4, G5, ad6, cp7, us8, G9, hs⟩
    · intro L ac w hJ
      obtain ⟨g10, ad2, cp3, us4, G5, ad6, cp7, us8, G9, hs⟩ := hJ
      refine wpO_plain rfl (op_build hs (some 6) (qs := [(0, .slice ad2 ks.length cp3), (1, .slice ad6 js.length cp7)]) (v := .agg #[.slice ad2 ks.length cp3, .slice ad6 js.length cp7, .int .i64 0]) rfl rfl rfl rfl (fun _ => by kernel_rfl) rfl fun ac hs => ?_)
      exact ⟨g10, ad2, cp3, us4, G5, ad6, cp7, us8, G9, hs⟩
    · intro L ac w hJ
      obtain ⟨g10, ad2, cp3, us4, G5, ad6, cp7, us8, G9, hs⟩ := hJ
      refine wpO_plain rfl (op_box hs (some 7) (some 1) (cs := [.slice ad2 ks.length cp3, .slice ad6 js.length cp7, .int .i64 0]) rfl rfl rfl rfl rfl rfl fun g10 ac w hs => ?_)
      exact ⟨g10, ad2, cp3, us4, G5, ad6, cp7, us8, G9, hs⟩
    · intro L ac w hJ
      obtain ⟨g10, ad2, cp3, us4, G5, ad6, cp7, us8, G9, hs⟩ := hJ
      refine wpO_plain rfl (op_assign hs (some 8) rfl rfl rfl rfl fun ac hs => ?_)
      exact ⟨g10, ad2, cp3, us4, G5, ad6, cp7, us8, G9, hs⟩
  intro ac w hJ
  obtain ⟨g10, ad2, cp3, us4, G5, ad6, cp7, us8, G9, hs⟩ := hJ
  replace hs : St 11 ⟨w0, [], [(true, .cel (.slice am ks.length cm) ks.length vs), (true, .bys vs ks), (true, .cel (.slice aa js.length ca) js.length us), (true, .bys us js), (true, .own (.slice ad2 ks.length cp3) 34 1 ks.length us4), (true, .bysO G5 us4 ks), (true, .own (.slice ad6 js.length cp7) 34 1 js.length us8), (true, .bysO G9 us8 js)], Z, X⟩ [(3, true, .pointer (some ⟨g1, 0, none⟩)), (4, true, .slice am ks.length cm), (5, true, .slice ad2 ks.length cp3), (6, true, .pointer (some ⟨g1, 1, none⟩)), (7, true, .slice aa js.length ca), (8, true, .slice ad6 js.length cp7), (9, true, .agg #[.slice ad2 ks.length cp3, .slice ad6 js.length cp7, .int .i64 0]), (10, true, .pointer (some ⟨g10, 0, none⟩)), (2, true, .pointer (some ⟨g10, 0, none⟩)), (1, true, .pointer (some ⟨g1, 0, none⟩)), (2, true, .pointer none)] [(true, g1, 24, [.slice am ks.length cm, .slice aa js.length ca]), (true, g10, 61, [.slice ad2 ks.length cp3, .slice ad6 js.length cp7, .int .i64 0])] ac w := hs
  replace hs := hs.merge3 5 7 (by decide) rfl rfl
  refine then_n ?_
  refine wp_ret ?_
  exact bodyPost_ret (res1 rfl (rv_t hs rfl)) hs.defers ⟨⟨ad2, cp3, us4, ad6, cp7, us8, GV G5 G9, g10⟩, rfl, ((hs.selS [0, 1, 2, 3, 4, 6, 5] rfl (by decide)).selB [1] rfl (by decide)).mem⟩
theorem done_c (gm : Nat) (am : Option Addr) (cm : Nat) (vs : List Value) (aa : Option Addr) (ca : Nat) (us : List Value) (G : Nat → Prop) (xs : List Value) (ts : BL) (ks js : BL) (er : Nat) (k1 j1 : BL) (e1 : Nat) (ok : OkN 8000 ks) (oj : OkN 8000 js) (hp : donL ks js er = (k1, j1, e1)) (w0 : World) (Z X : Nat → Prop) (hm : Mem ⟨w0, [], [(true, .own (.slice am ks.length cm) 34 1 ks.length vs), (true, .own (.slice aa js.length ca) 34 1 js.length us), (true, .bysO G (vs ++ us ++ xs) (ks ++ js ++ ts))], Z, X⟩ [(true, gm, 61, [.slice am ks.length cm, .slice aa js.length ca, .int .i64 ((er : Nat) : Int)])] w0) : Calls Try.prog 30 #[.pointer (some ⟨gm, 0, none⟩)] w0 fun e w' => PostX w0 Z X (ρ := M2) (fun r => .tuple #[.agg #[.slice r.a k1.length r.c, .slice r.b j1.length r.d], .int .i64 ((e1 : Nat) : Int)]) (fun r => [(true, gm, 61, [.slice am ks.length cm, .slice aa js.length ca, .int .i64 ((e1 : Nat) : Int)])]) (fun r => [(true, .own (.slice r.a k1.length r.c) 34 1 k1.length r.vs), (true, .own (.slice r.b j1.length r.d) 34 1 j1.length r.us), (true, .bysO r.G (r.vs ++ r.us ++ xs) (k1 ++ j1 ++ ts))]) e w' := by
  have hk8 : ks.length ≤ 8000 := ok.1
  have hj8 : js.length ≤ 8000 := oj.1
  refine enterX (n := 35) (args := [.pointer (some ⟨gm, 0, none⟩)]) Try.func30 rfl rfl (Nat.le_of_ble_eq_true rfl) hm fun ac hs => ?_
  have hv := hs.ownLen 0 rfl
  have hu := hs.ownLen 1 rfl
  refine wp_seq ?_
  refine wp_region_lit ?_
  refine lstep (wpO_plain rfl (op_alloc hs none none (cs := [.slice none 0 0, .slice none 0 0]) rfl rfl Try.zeroValue24 (by kernel_rfl) rfl rfl fun g1 ac w hs => ?_))
  refine lstep (wpO_plain rfl (op_assign hs none rfl rfl rfl rfl fun ac hs => ?_))
  refine wpList_nil ?_
  refine then_n ?_
  refine wp_seq ?_
  replace hs : St 35 ⟨w0, [], [(true, .own (.slice am ks.length cm) 34 1 ks.length vs), (true, .own (.slice aa js.length ca) 34 1 js.length us), (true, .bysO G (vs ++ us ++ xs) (ks ++ js ++ ts))], Z, X⟩ [(0, true, .pointer (some ⟨gm, 0, none⟩)), (2, true, .pointer (some ⟨g1, 0, none⟩)), (3, true, .int .i64 0)] [(true, gm, 61, [.slice am ks.length cm, .slice aa js.length ca, .int .i64 ((er : Nat) : Int)]), (true, g1, 24, [.slice none 0 0, .slice none 0 0])] ac _ := hs.re ⟨rfl, rfl, rfl, trivial⟩
  refine region_inv [([], [1, 2, 3, 8, 10]), ([0], [2, 3, 8, 10]), ([0, 1], [3, 8, 10]), ([0, 1, 2], [8, 10]), ([], [5, 6, 7, 8, 10]), ([4], [6, 7, 8, 10]), ([4, 5], [7, 8, 10]), ([4, 5, 6], [8, 10]), ([0, 1, 2, 3, 4, 5, 6, 7], [10]), ([], [10]), ([0, 1, 2, 3, 4, 5, 6, 7, 8, 9], [])] (fun L ac w => ∃ (g2 : Nat), St 35 ⟨w0, [], [(true, .own (.slice am ks.length cm) 34 1 ks.length vs), (true, .own (.slice aa js.length ca) 34 1 js.length us), (true, .bysO G (vs ++ us ++ xs) (ks ++ js ++ ts))], Z, X⟩ [(5, L 0, .pointer (some ⟨gm, 0, none⟩)), (6, L 1, .pointer (some ⟨gm, 0, none⟩)), (7, L 2, .pointer (some ⟨gm, 0, none⟩)), (8, L 3, .slice am ks.length cm), (9, L 4, .pointer (some ⟨gm, 0, none⟩)), (10, L 5, .pointer (some ⟨gm, 0, none⟩)), (11, L 6, .pointer (some ⟨gm, 1, none⟩)), (12, L 7, .slice aa js.length ca), (13, L 8, .agg #[.slice am ks.length cm, .slice aa js.length ca]), (4, L 9, .pointer (some ⟨g2, 0, none⟩)), (0, true, .pointer (some ⟨gm, 0, none⟩)), (2, true, .pointer (some ⟨g1, 0, none⟩)), (3, true, .int .i64 0)] [(true, gm, 61, [.slice am ks.length cm, .slice aa js.length ca, .int .i64 ((er : Nat) : Int)]), (true, g1, 24, [.slice none 0 0, .slice none 0 0]), (L 9, g2, 24, (cond (L 10) [.slice am ks.length cm, .slice aa js.length ca] [.slice none 0 0, .slice none 0 0]))] ac w) (by kernel_rfl) (by kernel_rfl) ?_ ?_ ?_
  · exact ⟨0, hs.drew.skip.skip.skip.skip.skip.skip.skip.skip.skip.skip.pad⟩
  · refine ⟨?_, ?_, ?_, ?_, ?_, ?_, ?_, ?_, ?_, ?_, ?_, trivial⟩
    · intro L ac w hJ
      obtain ⟨g2, hs⟩ := hJ
      refine wpO_plain rfl (op_move hs (some 0) rfl rfl rfl rfl fun ac hs => ?_)
      exact ⟨g2, hs⟩
    · intro L ac w hJ
      obtain ⟨g2, hs⟩ := hJ
      refine wpO_plain rfl (op_nilCheck hs (some 1) rfl rfl rfl rfl fun ac hs => ?_)
      exact ⟨g2, hs⟩
    · intro L ac w hJ
      obtain ⟨g2, hs⟩ := hJ
      refine wpO_plain rfl (op_fieldA hs (some 2) rfl rfl rfl Try.underlying61 rfl Try.sizeOf22 (by decide) rfl fun ac hs => ?_)
      exact ⟨g2, hs⟩
    · intro L ac w hJ
      obtain ⟨g2, hs⟩ := hJ
      refine wpO_plain rfl (op_load hs (some 3) 0 (v := .slice am ks.length cm) rfl rfl rfl rfl Try.isAgg22 Try.sizeOf22 rfl rfl fun ac hs => ?_)
      exact ⟨g2, hs⟩
    · intro L ac w hJ
      obtain ⟨g2, hs⟩ := hJ
      refine wpO_plain rfl (op_move hs (some 4) rfl rfl rfl rfl fun ac hs => ?_)
      exact ⟨g2, hs⟩
    · intro L ac w hJ
      obtain ⟨g2, hs⟩ := hJ
      refine wpO_plain rfl (op_nilCheck hs (some 5) rfl rfl rfl rfl fun ac hs => ?_)
      exact ⟨g2, hs⟩
    · intro L ac w hJ
      obtain ⟨g2, hs⟩ := hJ
      refine wpO_plain rfl (op_fieldA hs (some 6) rfl rfl rfl Try.underlying61 rfl Try.sizeOf22 (by decide) rfl fun ac hs => ?_)
      exact ⟨g2, hs⟩
    · intro L ac w hJ
      obtain ⟨g2, hs⟩ := hJ
      refine wpO_plain rfl (op_load hs (some 7) 0 (v := .slice aa js.length ca) rfl rfl rfl rfl Try.isAgg22 Try.sizeOf22 rfl rfl fun ac hs => ?_)
      exact ⟨g2, hs⟩
    · intro L ac w hJ
      obtain ⟨g2, hs⟩ := hJ
      refine wpO_plain rfl (op_build hs (some 8) (qs := [(0, .slice am ks.length cm), (1, .slice aa js.length ca)]) (v := .agg #[.slice am ks.length cm, .slice aa js.length ca]) rfl rfl rfl rfl (fun _ => by kernel_rfl) rfl fun ac hs => ?_)
      exact ⟨g2, hs⟩
    · intro L ac w hJ
      obtain ⟨g2, hs⟩ := hJ
      refine wpO_plain rfl (op_alloc hs (some 9) (some 2) (cs := [.slice none 0 0, .slice none 0 0]) rfl rfl Try.zeroValue24 (by kernel_rfl) rfl rfl fun g2 ac w hs => ?_)
      exact ⟨g2, hs⟩
    · intro L ac w hJ
      obtain ⟨g2, hs⟩ := hJ
      refine wpO_plain rfl (op_store hs 2 (vs := [.slice am ks.length cm, .slice aa js.length ca]) rfl rfl rfl rfl rfl Try.sizeOf24 rfl rfl rfl rfl rfl fun w hs => ?_)
      exact ⟨g2, hs⟩
  intro ac w hJ
  obtain ⟨g2, hs⟩ := hJ
  replace hs : St 35 ⟨w0, [], [(true, .own (.slice am ks.length cm) 34 1 ks.length vs), (true, .own (.slice aa js.length ca) 34 1 js.length us), (true, .bysO G (vs ++ us ++ xs) (ks ++ js ++ ts))], Z, X⟩ [(5, true, .pointer (some ⟨gm, 0, none⟩)), (6, true, .pointer (some ⟨gm, 0, none⟩)), (7, true, .pointer (some ⟨gm, 0, none⟩)), (8, true, .slice am ks.length cm), (9, true, .pointer (some ⟨gm, 0, none⟩)), (10, true, .pointer (some ⟨gm, 0, none⟩)), (11, true, .pointer (some ⟨gm, 1, none⟩)), (12, true, .slice aa js.length ca), (13, true, .agg #[.slice am ks.length cm, .slice aa js.length ca]), (4, true, .pointer (some ⟨g2, 0, none⟩)), (0, true, .pointer (some ⟨gm, 0, none⟩)), (2, true, .pointer (some ⟨g1, 0, none⟩)), (3, true, .int .i64 0)] [(true, gm, 61, [.slice am ks.length cm, .slice aa js.length ca, .int .i64 ((er : Nat) : Int)]), (true, g1, 24, [.slice none 0 0, .slice none 0 0]), (true, g2, 24, [.slice am ks.length cm, .slice aa js.length ca])] ac w := hs
  refine then_n ?_
  refine wp_seq ?_
  refine wp_seq ?_
  refine wp_region_lit ?_
  refine lstep (wpO_plain rfl (op_move hs none rfl rfl rfl rfl fun ac hs => ?_))
  refine lstep (wpO_plain rfl (op_nilCheck hs none rfl rfl rfl rfl fun ac hs => ?_))
  refine lstep (wpO_plain rfl (op_fieldA hs none rfl rfl rfl Try.underlying61 rfl Try.sizeOf28 (by decide) rfl fun ac hs => ?_))
  refine lstep (wpO_plain rfl (op_load hs none 0 (v := .int .i64 ((er : Nat) : Int)) rfl rfl rfl rfl Try.isAgg28 Try.sizeOf28 rfl rfl fun ac hs => ?_))
  refine lstep (wpO_plain rfl (op_bin hs none (v := .bool (decide (er = 0))) rfl rfl rfl rfl (fun _ => rfl) (bin_eqlN (x := er) (y := 0)) rfl fun ac hs => ?_))
  refine wpList_nil ?_
  refine then_n ?_
  refine wp_cond_split (hs.ev rfl) (fun hc => ?_) (fun hc => ?_)
  · skip
    have hp3 := of_decide_eq_true hc
    refine wp_region_lit ?_
    refine lstep (wpO_plain rfl (op_move hs none rfl rfl rfl rfl fun ac hs => ?_))
    refine lstep (wpO_plain rfl (op_load hs none 2 (v := .agg #[.slice am ks.length cm, .slice aa js.length ca]) rfl rfl rfl rfl Try.isAgg24 Try.sizeOf24 rfl rfl fun ac hs => ?_))
    obtain ⟨r4, hr4⟩ : ∃ z0, chkL ks js = z0 := ⟨_, rfl⟩
    refine lstep (wpO_plain rfl (op_callV (F := 16) (ρ := Unit) hs none none (v := fun r => .int .i64 ((r4 : Nat) : Int)) (E := fun r => []) (j := 0) rfl rfl rfl rfl (Try.call16 _) (fun hs => check_c am cm vs aa ca us ks js r4 (Nat.le_trans (show OkN 8000 ks from ok).1 (by decide)) (Nat.le_trans (show OkN 8000 js from oj).1 (by decide)) hr4 _ _ (hs.celT (k := 0) rfl) (hs.mainY 2 rfl (hs.ownLen 0 rfl)) (hs.celT (k := 1) rfl) (hs.altY 2 rfl (hs.ownLen 0 rfl) (hs.ownLen 1 rfl))) (fun _ => rfl) (fun _ => rfl) rfl rfl fun _ ac w hs => ?_))
    refine lstep (wpO_plain rfl (op_nilCheck hs none rfl rfl rfl rfl fun ac hs => ?_))
    refine lstep (wpO_plain rfl (op_fieldA hs none rfl rfl rfl Try.underlying61 rfl Try.sizeOf28 (by decide) rfl fun ac hs => ?_))
    refine lstep (wpO_plain rfl (op_store hs 0 (vs := [.int .i64 ((r4 : Nat) : Int)]) rfl rfl rfl rfl rfl Try.sizeOf28 rfl rfl rfl rfl rfl fun w hs => ?_))
    refine wpList_nil ?_
    refine then_n ?_
    refine wp_seq ?_
    refine wp_seq ?_
    replace hs : St 35 ⟨w0, [], [(true, .own (.slice am ks.length cm) 34 1 ks.length vs), (true, .own (.slice aa js.length ca) 34 1 js.length us), (true, .bysO G (vs ++ us ++ xs) (ks ++ js ++ ts))], Z, X⟩ [(0, true, .pointer (some ⟨gm, 0, none⟩)), (2, true, .pointer (some ⟨g1, 0, none⟩)), (3, true, .int .i64 0), (4, true, .pointer (some ⟨g2, 0, none⟩))] [(true, gm, 61, [.slice am ks.length cm, .slice aa js.length ca, .int .i64 ((r4 : Nat) : Int)]), (true, g1, 24, [.slice none 0 0, .slice none 0 0]), (true, g2, 24, [.slice am ks.length cm, .slice aa js.length ca])] ac _ := hs.re ⟨rfl, rfl, rfl, rfl, trivial⟩
    refine wp_region_lit ?_
    refine lstep (wpO_plain rfl (op_move hs none rfl rfl rfl rfl fun ac hs => ?_))
    refine lstep (wpO_plain rfl (op_nilCheck hs none rfl rfl rfl rfl fun ac hs => ?_))
    refine lstep (wpO_plain rfl (op_fieldA hs none rfl rfl rfl Try.underlying61 rfl Try.sizeOf28 (by decide) rfl fun ac hs => ?_))
    refine lstep (wpO_plain rfl (op_load hs none 0 (v := .int .i64 ((r4 : Nat) : Int)) rfl rfl rfl rfl Try.isAgg28 Try.sizeOf28 rfl rfl fun ac hs => ?_))
    refine lstep (wpO_plain rfl (op_bin hs none (v := .bool (decide (r4 ≠ 0))) rfl rfl rfl rfl (fun _ => rfl) (bin_neqN (x := r4) (y := 0)) rfl fun ac hs => ?_))
    refine wpList_nil ?_
    refine then_n ?_
    refine wp_cond_split (hs.ev rfl) (fun hc => ?_) (fun hc => ?_)
    · skip
      have hp5 := of_decide_eq_true hc
      refine wp_seq ?_
      replace hs : St 35 ⟨w0, [], [(true, .own (.slice am ks.length cm) 34 1 ks.length vs), (true, .own (.slice aa js.length ca) 34 1 js.length us), (true, .bysO G (vs ++ us ++ xs) (ks ++ js ++ ts))], Z, X⟩ [(0, true, .pointer (some ⟨gm, 0, none⟩)), (2, true, .pointer (some ⟨g1, 0, none⟩)), (3, true, .int .i64 0), (4, true, .pointer (some ⟨g2, 0, none⟩))] [(true, gm, 61, [.slice am ks.length cm, .slice aa js.length ca, .int .i64 ((r4 : Nat) : Int)]), (true, g1, 24, [.slice none 0 0, .slice none 0 0]), (true, g2, 24, [.slice am ks.length cm, .slice aa js.length ca])] ac _ := hs.re ⟨rfl, rfl, rfl, rfl, trivial⟩
      refine region_inv [([], [5, 6]), ([], [2, 3, 4, 6]), ([1], [3, 4, 6]), ([1, 2], [4, 6]), ([1, 2, 3], [6]), ([0], [6]), ([0, 1, 2, 3, 4, 5], [])] (fun L ac w => St 35 ⟨w0, [], [(true, .own (.slice am ks.length cm) 34 1 ks.length vs), (true, .own (.slice aa js.length ca) 34 1 js.length us), (true, .bysO G (vs ++ us ++ xs) (ks ++ js ++ ts))], Z, X⟩ [(29, L 0, .agg #[.slice none 0 0, .slice none 0 0]), (30, L 1, .pointer (some ⟨gm, 0, none⟩)), (31, L 2, .pointer (some ⟨gm, 0, none⟩)), (32, L 3, .pointer (some ⟨gm, 2, none⟩)), (33, L 4, .int .i64 ((r4 : Nat) : Int)), (3, L 6, .int .i64 ((r4 : Nat) : Int)), (0, true, .pointer (some ⟨gm, 0, none⟩)), (2, true, .pointer (some ⟨g1, 0, none⟩)), (3, true, .int .i64 0), (4, true, .pointer (some ⟨g2, 0, none⟩))] [(true, gm, 61, [.slice am ks.length cm, .slice aa js.length ca, .int .i64 ((r4 : Nat) : Int)]), (true, g1, 24, (cond (L 5) [.slice none 0 0, .slice none 0 0] [.slice none 0 0, .slice none 0 0])), (true, g2, 24, [.slice am ks.length cm, .slice aa js.length ca])] ac w) (by kernel_rfl) (by kernel_rfl) ?_ ?_ ?_
      · exact hs.drew.skip.skip.skip.skip.skip.skip
      · refine ⟨?_, ?_, ?_, ?_, ?_, ?_, ?_, trivial⟩
        · intro L ac w hJ
          have hs := hJ
          refine wpO_plain rfl (op_build hs (some 0) (qs := []) (v := .agg #[.slice none 0 0, .slice none 0 0]) rfl rfl rfl rfl (fun _ => by kernel_rfl) rfl fun ac hs => ?_)
          exact hs
        · intro L ac w hJ
          have hs := hJ
          refine wpO_plain rfl (op_move hs (some 1) rfl rfl rfl rfl fun ac hs => ?_)
          exact hs
        · intro L ac w hJ
          have hs := hJ
          refine wpO_plain rfl (op_nilCheck hs (some 2) rfl rfl rfl rfl fun ac hs => ?_)
          exact hs
        · intro L ac w hJ
          have hs := hJ
          refine wpO_plain rfl (op_fieldA hs (some 3) rfl rfl rfl Try.underlying61 rfl Try.sizeOf28 (by decide) rfl fun ac hs => ?_)
          exact hs
        · intro L ac w hJ
          have hs := hJ
          refine wpO_plain rfl (op_load hs (some 4) 0 (v := .int .i64 ((r4 : Nat) : Int)) rfl rfl rfl rfl Try.isAgg28 Try.sizeOf28 rfl rfl fun ac hs => ?_)
          exact hs
        · intro L ac w hJ
          have hs := hJ
          refine wpO_plain rfl (op_store hs 1 (vs := [.slice none 0 0, .slice none 0 0]) rfl rfl rfl rfl rfl Try.sizeOf24 rfl rfl rfl rfl rfl fun w hs => ?_)
          exact hs
        · intro L ac w hJ
          have hs := hJ
          refine wpO_plain rfl (op_assign hs (some 5) rfl rfl rfl rfl fun ac hs => ?_)
          exact hs
      intro ac w hJ
      replace hs : St 35 ⟨w0, [], [(true, .own (.slice am ks.length cm) 34 1 ks.length vs), (true, .own (.slice aa js.length ca) 34 1 js.length us), (true, .bysO G (vs ++ us ++ xs) (ks ++ js ++ ts))], Z, X⟩ [(29, true, .agg #[.slice none 0 0, .slice none 0 0]), (30, true, .pointer (some ⟨gm, 0, none⟩)), (31, true, .pointer (some ⟨gm, 0, none⟩)), (32, true, .pointer (some ⟨gm, 2, none⟩)), (33, true, .int .i64 ((r4 : Nat) : Int)), (3, true, .int .i64 ((r4 : Nat) : Int)), (0, true, .pointer (some ⟨gm, 0, none⟩)), (2, true, .pointer (some ⟨g1, 0, none⟩)), (3, true, .int .i64 0), (4, true, .pointer (some ⟨g2, 0, none⟩))] [(true, gm, 61, [.slice am ks.length cm, .slice aa js.length ca, .int .i64 ((r4 : Nat) : Int)]), (true, g1, 24, [.slice none 0 0, .slice none 0 0]), (true, g2, 24, [.slice am ks.length cm, .slice aa js.length ca])] ac w := hJ
      refine then_n ?_
      refine wp_ret ?_
      refine then_r ?_
      have HS := hs
      have h0 := hp
      unfold donL at h0
      subst hp3
      rw [if_pos rfl, hr4] at h0
      rw [if_neg hp5] at h0
      obtain ⟨hk, hj, he⟩ := inj3 h0
      subst hk
      subst hj
      subst he
      have hs := HS
      replace hs := hs.nilOwn none 34 1 rfl
      replace hs := hs.nilOwn none 34 1 rfl
      have hlv := (hs.ownLen 0 rfl)
      have hlu := (hs.ownLen 1 rfl)
      replace hs := hs.cutB (j := 0) 2 hlv hlu rfl
      replace hs := hs.cutA (j := 0) 2 rfl hlu rfl
      exact bodyPost_ret (res2 rfl (rv_c hs 1 (v := .agg #[.slice none 0 0, .slice none 0 0]) rfl rfl Try.isAgg24 Try.sizeOf24 rfl) (rv_t hs rfl)) hs.defers ⟨⟨none, 0, [], none, 0, [], G⟩, rfl, ((hs.selS [3, 4, 2] rfl (by decide)).selB [0] rfl (by decide)).mem⟩
    · skip
      have hp6 := of_decide_eq_false hc
      refine wp_skip ?_
      refine then_n ?_
      refine wp_seq ?_
      refine wp_region_lit ?_
      refine lstep (wpO_plain rfl (op_load hs none 2 (v := .agg #[.slice am ks.length cm, .slice aa js.length ca]) rfl rfl rfl rfl Try.isAgg24 Try.sizeOf24 rfl rfl fun ac hs => ?_))
      refine lstep (wpO_plain rfl (op_store hs 1 (vs := [.slice am ks.length cm, .slice aa js.length ca]) rfl rfl rfl rfl rfl Try.sizeOf24 rfl rfl rfl rfl rfl fun w hs => ?_))
      refine lstep (wpO_plain rfl (op_assign hs none rfl rfl rfl rfl fun ac hs => ?_))
      refine wpList_nil ?_
      refine then_n ?_
      refine wp_ret ?_
      have HS := hs
      have h0 := hp
      unfold donL at h0
      subst hp3
      rw [if_pos rfl, hr4] at h0
      rw [if_pos (Classical.not_not.1 hp6)] at h0
      obtain ⟨hk, hj, he⟩ := inj3 h0
      subst hk
      subst hj
      subst he
      obtain rfl : r4 = 0 := Classical.not_not.1 hp6
      have hs := HS
      exact bodyPost_ret (res2 rfl (rv_c hs 1 (v := .agg #[.slice am ks.length cm, .slice aa js.length ca]) rfl rfl Try.isAgg24 Try.sizeOf24 rfl) (rv_t hs rfl)) hs.defers ⟨⟨am, cm, vs, aa, ca, us, G⟩, rfl, ((hs.selS [0, 1, 2] rfl (by decide)).selB [0] rfl (by decide)).mem⟩
  · skip
    have hp7 := of_decide_eq_false hc
    refine wp_skip ?_
    refine then_n ?_
    refine wp_seq ?_
    refine wp_seq ?_
    refine wp_region_lit ?_
    refine lstep (wpO_plain rfl (op_move hs none rfl rfl rfl rfl fun ac hs => ?_))
    refine lstep (wpO_plain rfl (op_nilCheck hs none rfl rfl rfl rfl fun ac hs => ?_))
    refine lstep (wpO_plain rfl (op_fieldA hs none rfl rfl rfl Try.underlying61 rfl Try.sizeOf28 (by decide) rfl fun ac hs => ?_))
    refine lstep (wpO_plain rfl (op_load hs none 0 (v := .int .i64 ((er : Nat) : Int)) rfl rfl rfl rfl Try.isAgg28 Try.sizeOf28 rfl rfl fun ac hs => ?_))
    refine lstep (wpO_plain rfl (op_bin hs none (v := .bool (decide (er ≠ 0))) rfl rfl rfl rfl (fun _ => rfl) (bin_neqN (x := er) (y := 0)) rfl fun ac hs => ?_))
    refine wpList_nil ?_
    refine then_n ?_
    refine wp_cond_split (hs.ev rfl) (fun hc => ?_) (fun hc => ?_)
    · skip
      have hp8 := of_decide_eq_true hc
      refine wp_seq ?_
      replace hs : St 35 ⟨w0, [], [(true, .own (.slice am ks.length cm) 34 1 ks.length vs), (true, .own (.slice aa js.length ca) 34 1 js.length us), (true, .bysO G (vs ++ us ++ xs) (ks ++ js ++ ts))], Z, X⟩ [(0, true, .pointer (some ⟨gm, 0, none⟩)), (2, true, .pointer (some ⟨g1, 0, none⟩)), (3, true, .int .i64 0), (4, true, .pointer (some ⟨g2, 0, none⟩))] [(true, gm, 61, [.slice am ks.length cm, .slice aa js.length ca, .int .i64 ((er : Nat) : Int)]), (true, g1, 24, [.slice none 0 0, .slice none 0 0]), (true, g2, 24, [.slice am ks.length cm, .slice aa js.length ca])] ac _ := hs.re ⟨rfl, rfl, rfl, rfl, trivial⟩
      refine region_inv [([], [5, 6]), ([], [2, 3, 4, 6]), ([1], [3, 4, 6]), ([1, 2], [4, 6]), ([1, 2, 3], [6]), ([0], [6]), ([0, 1, 2, 3, 4, 5], [])] (fun L ac w => St 35 ⟨w0, [], [(true, .own (.slice am ks.length cm) 34 1 ks.length vs), (true, .own (.slice aa js.length ca) 34 1 js.length us), (true, .bysO G (vs ++ us ++ xs) (ks ++ js ++ ts))], Z, X⟩ [(29, L 0, .agg #[.slice none 0 0, .slice none 0 0]), (30, L 1, .pointer (some ⟨gm, 0, none⟩)), (31, L 2, .pointer (some ⟨gm, 0, none⟩)), (32, L 3, .pointer (some ⟨gm, 2, none⟩)), (33, L 4, .int .i64 ((er : Nat) : Int)), (3, L 6, .int .i64 ((er : Nat) : Int)), (0, true, .pointer (some ⟨gm, 0, none⟩)), (2, true, .pointer (some ⟨g1, 0, none⟩)), (3, true, .int .i64 0), (4, true, .pointer (some ⟨g2, 0, none⟩))] [(true, gm, 61, [.slice am ks.length cm, .slice aa js.length ca, .int .i64 ((er : Nat) : Int)]), (true, g1, 24, (cond (L 5) [.slice none 0 0, .slice none 0 0] [.slice none 0 0, .slice none 0 0])), (true, g2, 24, [.slice am ks.length cm, .slice aa js.length ca])] ac w) (by kernel_rfl) (by kernel_rfl) ?_ ?_ ?_
      · exact hs.drew.skip.skip.skip.skip.skip.skip
      · refine ⟨?_, ?_, ?_, ?_, ?_, ?_, ?_, trivial⟩
        · intro L ac w hJ
          have hs := hJ
          refine wpO_plain rfl (op_build hs (some 0) (qs := []) (v := .agg #[.slice none 0 0, .slice none 0 0]) rfl rfl rfl rfl (fun _ => by kernel_rfl) rfl fun ac hs => ?_)
          exact hs
        · intro L ac w hJ
          have hs := hJ
          refine wpO_plain rfl (op_move hs (some 1) rfl rfl rfl rfl fun ac hs => ?_)
          exact hs
        · intro L ac w hJ
          have hs := hJ
          refine wpO_plain rfl (op_nilCheck hs (some 2) rfl rfl rfl rfl fun ac hs => ?_)
          exact hs
        · intro L ac w hJ
          have hs := hJ
          refine wpO_plain rfl (op_fieldA hs (some 3) rfl rfl rfl Try.underlying61 rfl Try.sizeOf28 (by decide) rfl fun ac hs => ?_)
          exact hs
        · intro L ac w hJ
          have hs := hJ
          refine wpO_plain rfl (op_load hs (some 4) 0 (v := .int .i64 ((er : Nat) : Int)) rfl rfl rfl rfl Try.isAgg28 Try.sizeOf28 rfl rfl fun ac hs => ?_)
          exact hs
        · intro L ac w hJ
          have hs := hJ
          refine wpO_plain rfl (op_store hs 1 (vs := [.slice none 0 0, .slice none 0 0]) rfl rfl rfl rfl rfl Try.sizeOf24 rfl rfl rfl rfl rfl fun w hs => ?_)
          exact hs
        · intro L ac w hJ
          have hs := hJ
          refine wpO_plain rfl (op_assign hs (some 5) rfl rfl rfl rfl fun ac hs => ?_)
          exact hs
      intro ac w hJ
      replace hs : St 35 ⟨w0, [], [(true, .own (.slice am ks.length cm) 34 1 ks.length vs), (true, .own (.slice aa js.length ca) 34 1 js.length us), (true, .bysO G (vs ++ us ++ xs) (ks ++ js ++ ts))], Z, X⟩ [(29, true, .agg #[.slice none 0 0, .slice none 0 0]), (30, true, .pointer (some ⟨gm, 0, none⟩)), (31, true, .pointer (some ⟨gm, 0, none⟩)), (32, true, .pointer (some ⟨gm, 2, none⟩)), (33, true, .int .i64 ((er : Nat) : Int)), (3, true, .int .i64 ((er : Nat) : Int)), (0, true, .pointer (some ⟨gm, 0, none⟩)), (2, true, .pointer (some ⟨g1, 0, none⟩)), (3, true, .int .i64 0), (4, true, .pointer (some ⟨g2, 0, none⟩))] [(true, gm, 61, [.slice am ks.length cm, .slice aa js.length ca, .int .i64 ((er : Nat) : Int)]), (true, g1, 24, [.slice none 0 0, .slice none 0 0]), (true, g2, 24, [.slice am ks.length cm, .slice aa js.length ca])] ac w := hJ
      refine then_n ?_
      refine wp_ret ?_
      refine then_r ?_
      have HS := hs
      have h0 := hp
      unfold donL at h0
      rw [if_neg hp7] at h0
      rw [if_neg hp8] at h0
      obtain ⟨hk, hj, he⟩ := inj3 h0
      subst hk
      subst hj
      subst he
      have hs := HS
      replace hs := hs.nilOwn none 34 1 rfl
      replace hs := hs.nilOwn none 34 1 rfl
      have hlv := (hs.ownLen 0 rfl)
      have hlu := (hs.ownLen 1 rfl)
      replace hs := hs.cutB (j := 0) 2 hlv hlu rfl
      replace hs := hs.cutA (j := 0) 2 rfl hlu rfl
      exact bodyPost_ret (res2 rfl (rv_c hs 1 (v := .agg #[.slice none 0 0, .slice none 0 0]) rfl rfl Try.isAgg24 Try.sizeOf24 rfl) (rv_t hs rfl)) hs.defers ⟨⟨none, 0, [], none, 0, [], G⟩, rfl, ((hs.selS [3, 4, 2] rfl (by decide)).selB [0] rfl (by decide)).mem⟩
    · skip
      have hp9 := of_decide_eq_false hc
      refine wp_skip ?_
      refine then_n ?_
      refine wp_seq ?_
      replace hs : St 35 ⟨w0, [], [(true, .own (.slice am ks.length cm) 34 1 ks.length vs), (true, .own (.slice aa js.length ca) 34 1 js.length us), (true, .bysO G (vs ++ us ++ xs) (ks ++ js ++ ts))], Z, X⟩ [(2, true, .pointer (some ⟨g1, 0, none⟩)), (3, true, .int .i64 0), (4, true, .pointer (some ⟨g2, 0, none⟩))] [(true, gm, 61, [.slice am ks.length cm, .slice aa js.length ca, .int .i64 ((er : Nat) : Int)]), (true, g1, 24, [.slice none 0 0, .slice none 0 0]), (true, g2, 24, [.slice am ks.length cm, .slice aa js.length ca])] ac _ := hs.re ⟨rfl, rfl, rfl, trivial⟩
      refine wp_region_lit ?_
      refine lstep (wpO_plain rfl (op_load hs none 2 (v := .agg #[.slice am ks.length cm, .slice aa js.length ca]) rfl rfl rfl rfl Try.isAgg24 Try.sizeOf24 rfl rfl fun ac hs => ?_))
      refine lstep (wpO_plain rfl (op_store hs 1 (vs := [.slice am ks.length cm, .slice aa js.length ca]) rfl rfl rfl rfl rfl Try.sizeOf24 rfl rfl rfl rfl rfl fun w hs => ?_))
      refine lstep (wpO_plain rfl (op_assign hs none rfl rfl rfl rfl fun ac hs => ?_))
      refine wpList_nil ?_
      refine then_n ?_
      refine wp_ret ?_
      exact absurd (Classical.not_not.1 hp9) hp7
theorem do_c (am : Option Addr) (cm : Nat) (vs : List Value) (aa : Option Addr) (ca : Nat) (us : List Value) (ks js : BL) (op : Nat) (k1 j1 : BL) (e1 : Nat) (ok : OkN 1000 ks) (oj : OkN 1000 js) (hp : doL op ks js = (k1, j1, e1)) (w0 : World) (Z X : Nat → Prop) (hm : Mem ⟨w0, [], [(true, .cel (.slice am ks.length cm) ks.length vs), (true, .bys vs ks), (true, .cel (.slice aa js.length ca) js.length us), (true, .bys us js)], Z, X⟩ [] w0) : Calls Try.prog 11 #[.int .u8 ((op : Nat) : Int), .agg #[.slice am ks.length cm, .slice aa js.length ca]] w0 fun e w' => PostX w0 Z X (ρ := M2) (fun r => .tuple #[.agg #[.slice r.a k1.length r.c, .slice r.b j1.length r.d], .int .i64 ((e1 : Nat) : Int)]) (fun r => []) (fun r => [(true, .cel (.slice am ks.length cm) ks.length vs), (true, .bys vs ks), (true, .cel (.slice aa js.length ca) js.length us), (true, .bys us js), (true, .own (.slice r.a k1.length r.c) 34 1 k1.length r.vs), (true, .own (.slice r.b j1.length r.d) 34 1 j1.length r.us), (true, .bysO r.G (r.vs ++ r.us ++ []) (k1 ++ j1 ++ []))]) e w' := by
  have hk8 : ks.length ≤ 1000 := ok.1
  have hj8 : js.length ≤ 1000 := oj.1
  refine enterX (n := 24) (args := [.int .u8 ((op : Nat) : Int), .agg #[.slice am ks.length cm, .slice aa js.length ca]]) Try.func11 rfl rfl (Nat.le_of_ble_eq_true rfl) hm fun ac hs => ?_
  refine wp_seq ?_
  refine wp_region_lit ?_
  refine lstep (wpO_plain rfl (op_box hs none none (cs := [.slice am ks.length cm, .slice aa js.length ca]) rfl rfl rfl rfl rfl rfl fun g1 ac w hs => ?_))
  refine lstep (wpO_plain rfl (op_alloc hs none none (cs := [.slice none 0 0, .slice none 0 0]) rfl rfl Try.zeroValue24 (by kernel_rfl) rfl rfl fun g2 ac w hs => ?_))
  refine lstep (wpO_plain rfl (op_assign hs none rfl rfl rfl rfl fun ac hs => ?_))
  refine wpList_nil ?_
  refine then_n ?_
  refine wp_seq ?_
  refine wp_region_lit ?_
  refine lstep (wpO_plain rfl (op_load hs none 0 (v := .agg #[.slice am ks.length cm, .slice aa js.length ca]) rfl rfl rfl rfl Try.isAgg24 Try.sizeOf24 rfl rfl fun ac hs => ?_))
  refine lstep (wpO_plain rfl (op_callX (F := 26) (ρ := M2g) hs none none [] [0, 1, 2, 3] (v := fun r => .pointer (some ⟨r.o, 0, none⟩)) (S1 := [(true, .cel (.slice am ks.length cm) ks.length vs), (true, .bys vs ks), (true, .cel (.slice aa js.length ca) js.length us), (true, .bys us js)]) (bs1 := []) (E := fun r => [(true, .cel (.slice am ks.length cm) ks.length vs), (true, .bys vs ks), (true, .cel (.slice aa js.length ca) js.length us), (true, .bys us js), (true, .own (.slice r.a ks.length r.c) 34 1 ks.length r.vs), (true, .own (.slice r.b js.length r.d) 34 1 js.length r.us), (true, .bysO r.G (r.vs ++ r.us ++ ([])) (ks ++ js ++ ([])))]) (E1 := fun r => [(true, .cel (.slice am ks.length cm) ks.length vs), (true, .bys vs ks), (true, .cel (.slice aa js.length ca) js.length us), (true, .bys us js)]) (E2 := fun r => [.own (.slice r.a ks.length r.c) 34 1 ks.length r.vs, .own (.slice r.b js.length r.d) 34 1 js.length r.us, .bysO r.G (r.vs ++ r.us ++ ([])) (ks ++ js ++ ([]))]) (bfA := fun r => [(true, r.o, 61, [.slice r.a ks.length r.c, .slice r.b js.length r.d, .int .i64 0])]) (bf := fun r => []) (bf2 := fun r => [(true, r.o, 61, [.slice r.a ks.length r.c, .slice r.b js.length r.d, .int .i64 0])]) rfl rfl rfl rfl rfl (Try.call26 _) rfl rfl (by decide) (by decide) (fun Z X hm => load_c am cm vs aa ca us ks js (ok.mono (by decide)) (oj.mono (by decide)) _ _ _ hm) (fun _ => rfl) (fun _ => rfl) (fun _ => rfl) (fun _ => rfl) (fun _ => rfl) rfl fun ⟨ad3, cp4, vs5, ad6, cp7, us8, G9, gm10⟩ ac w hs => ?_))
  refine lstep (wpO_plain rfl (op_assign hs none rfl rfl rfl rfl fun ac hs => ?_))
  refine wpList_nil ?_
  refine then_n ?_
  refine wp_seq ?_
  refine wp_block ?_
  refine wp_seq ?_
  refine wp_seq ?_
  replace hs : St 24 ⟨w0, [], [(true, .cel (.slice am ks.length cm) ks.length vs), (true, .bys vs ks), (true, .cel (.slice aa js.length ca) js.length us), (true, .bys us js), (true, .own (.slice ad3 ks.length cp4) 34 1 ks.length vs5), (true, .own (.slice ad6 js.length cp7) 34 1 js.length us8), (true, .bysO G9 (vs5 ++ us8 ++ ([])) (ks ++ js ++ ([])))], Z, X⟩ [(0, true, .int .u8 ((op : Nat) : Int)), (4, true, .pointer (some ⟨g2, 0, none⟩)), (5, true, .int .i64 0), (6, true, .pointer (some ⟨gm10, 0, none⟩))] [(true, g1, 24, [.slice am ks.length cm, .slice aa js.length ca]), (true, g2, 24, [.slice none 0 0, .slice none 0 0]), (true, gm10, 61, [.slice ad3 ks.length cp4, .slice ad6 js.length cp7, .int .i64 0])] ac _ := hs.re ⟨rfl, rfl, rfl, rfl, trivial⟩
  refine wp_region_lit ?_
  refine lstep (wpO_plain rfl (op_move hs none rfl rfl rfl rfl fun ac hs => ?_))
  refine lstep (wpO_plain rfl (op_move hs none rfl rfl rfl rfl fun ac hs => ?_))
  obtain ⟨q11, ks12, js13, e14, hks12⟩ : ∃ z0 z1 z2 z3, movL op ks js 0 = (z0, z1, z2, z3) := ⟨_, _, _, _, rfl⟩
  obtain ⟨oks12, ojs13⟩ := mov_ok ok oj hks12
  refine lstep (wpO_plain rfl (op_callX (F := 27) (ρ := M2) hs none none [2] [4, 5, 6] (v := fun r => .bool q11) (S1 := [(true, .own (.slice ad3 ks.length cp4) 34 1 ks.length vs5), (true, .own (.slice ad6 js.length cp7) 34 1 js.length us8), (true, .bysO G9 (vs5 ++ us8 ++ ([])) (ks ++ js ++ ([])))]) (bs1 := [(true, gm10, 61, [.slice ad3 ks.length cp4, .slice ad6 js.length cp7, .int .i64 0])]) (E := fun r => [(true, .own (.slice r.a ks12.length r.c) 34 1 ks12.length r.vs), (true, .own (.slice r.b js13.length r.d) 34 1 js13.length r.us), (true, .bysO r.G (r.vs ++ r.us ++ ([])) (ks12 ++ js13 ++ ([])))]) (E1 := fun r => [(true, .own (.slice r.a ks12.length r.c) 34 1 ks12.length r.vs), (true, .own (.slice r.b js13.length r.d) 34 1 js13.length r.us), (true, .bysO r.G (r.vs ++ r.us ++ ([])) (ks12 ++ js13 ++ ([])))]) (E2 := fun r => []) (bfA := fun r => [(true, gm10, 61, [.slice r.a ks12.length r.c, .slice r.b js13.length r.d, .int .i64 ((e14 : Nat) : Int)])]) (bf := fun r => [(true, gm10, 61, [.slice r.a ks12.length r.c, .slice r.b js13.length r.d, .int .i64 ((e14 : Nat) : Int)])]) (bf2 := fun r => []) rfl rfl rfl rfl rfl (Try.call27 _) rfl rfl (by decide) (by decide) (fun Z X hm => moves_c gm10 ad3 cp4 vs5 ad6 cp7 us8 G9 ([]) ([]) ks js 0 op q11 ks12 js13 e14 (ok.mono (by decide)) (oj.mono (by decide)) hks12 _ _ _ hm) (fun _ => rfl) (fun _ => rfl) (fun _ => rfl) (fun _ => rfl) (fun _ => rfl) rfl fun ⟨ad15, cp16, vs17, ad18, cp19, us20, G21⟩ ac w hs => ?_))
  refine lstep (wpO_plain rfl (op_assign hs none rfl rfl rfl rfl fun ac hs => ?_))
  refine wpList_nil ?_
  refine then_n ?_
  refine wp_cond_split (hs.ev rfl) (fun hc => ?_) (fun hc => ?_)
  · skip
    have hQ0 : q11 = true := hc
    refine wp_skip ?_
    refine then_n ?_
    refine wp_cond_true (hs.evb rfl hQ0) ?_
    refine wp_seq ?_
    refine wp_region_lit ?_
    refine lstep (wpO_plain rfl (op_move hs none rfl rfl rfl rfl fun ac hs => ?_))
    obtain ⟨ks22, js23, e24, hks22⟩ : ∃ z0 z1 z2, donL ks12 js13 e14 = (z0, z1, z2) := ⟨_, _, _, rfl⟩
    refine lstep (wpO_plain rfl (op_callX (F := 30) (ρ := M2) hs none none [2] [4, 5, 6] (v := fun r => .tuple #[.agg #[.slice r.a ks22.length r.c, .slice r.b js23.length r.d], .int .i64 ((e24 : Nat) : Int)]) (S1 := [(true, .own (.slice ad15 ks12.length cp16) 34 1 ks12.length vs17), (true, .own (.slice ad18 js13.length cp19) 34 1 js13.length us20), (true, .bysO G21 (vs17 ++ us20 ++ ([])) (ks12 ++ js13 ++ ([])))]) (bs1 := [(true, gm10, 61, [.slice ad15 ks12.length cp16, .slice ad18 js13.length cp19, .int .i64 ((e14 : Nat) : Int)])]) (E := fun r => [(true, .own (.slice r.a ks22.length r.c) 34 1 ks22.length r.vs), (true, .own (.slice r.b js23.length r.d) 34 1 js23.length r.us), (true, .bysO r.G (r.vs ++ r.us ++ ([])) (ks22 ++ js23 ++ ([])))]) (E1 := fun r => [(true, .own (.slice r.a ks22.length r.c) 34 1 ks22.length r.vs), (true, .own (.slice r.b js23.length r.d) 34 1 js23.length r.us), (true, .bysO r.G (r.vs ++ r.us ++ ([])) (ks22 ++ js23 ++ ([])))]) (E2 := fun r => []) (bfA := fun r => [(true, gm10, 61, [.slice ad15 ks12.length cp16, .slice ad18 js13.length cp19, .int .i64 ((e24 : Nat) : Int)])]) (bf := fun r => [(true, gm10, 61, [.slice ad15 ks12.length cp16, .slice ad18 js13.length cp19, .int .i64 ((e24 : Nat) : Int)])]) (bf2 := fun r => []) rfl rfl rfl rfl rfl (Try.call30 _) rfl rfl (by decide) (by decide) (fun Z X hm => done_c gm10 ad15 cp16 vs17 ad18 cp19 us20 G21 ([]) ([]) ks12 js13 e14 ks22 js23 e24 (oks12.mono (by decide)) (ojs13.mono (by decide)) hks22 _ _ _ hm) (fun _ => rfl) (fun _ => rfl) (fun _ => rfl) (fun _ => rfl) (fun _ => rfl) rfl fun ⟨ad25, cp26, vs27, ad28, cp29, us30, G31⟩ ac w hs => ?_))
    refine lstep (wpO_plain rfl (op_extract hs none rfl rfl rfl rfl rfl fun ac hs => ?_))
    refine lstep (wpO_plain rfl (op_extract hs none rfl rfl rfl rfl rfl fun ac hs => ?_))
    refine lstep (wpO_plain rfl (op_store hs 1 (vs := [.slice ad25 ks22.length cp26, .slice ad28 js23.length cp29]) rfl rfl rfl rfl rfl Try.sizeOf24 rfl rfl rfl rfl rfl fun w hs => ?_))
    refine lstep (wpO_plain rfl (op_assign hs none rfl rfl rfl rfl fun ac hs => ?_))
    refine wpList_nil ?_
    refine then_n ?_
    refine wp_ret ?_
    refine blk_r ?_
    refine then_r ?_
    have HS := hs
    have h0 := hp
    unfold doL at h0
    simp only [hks12, hQ0, if_true, hks22] at h0
    obtain ⟨hk, hj, he⟩ := inj3 h0
    subst hk
    subst hj
    subst he
    have hs := HS
    exact bodyPost_ret (res2 rfl (rv_c hs 1 (v := .agg #[.slice ad25 ks22.length cp26, .slice ad28 js23.length cp29]) rfl rfl Try.isAgg24 Try.sizeOf24 rfl) (rv_t hs rfl)) hs.defers ⟨⟨ad25, cp26, vs27, ad28, cp29, us30, G31⟩, rfl, ((hs.selS [0, 1, 2, 3, 4, 5, 6] rfl (by decide)).selB [] rfl (by decide)).mem⟩
  · skip
    have hQ0 : q11 = false := hc
    refine wp_seq ?_
    refine wp_region_lit ?_
    refine lstep (wpO_plain rfl (op_move hs none rfl rfl rfl rfl fun ac hs => ?_))
    refine lstep (wpO_plain rfl (op_move hs none rfl rfl rfl rfl fun ac hs => ?_))
    obtain ⟨q32, ks33, e35, hks33⟩ : ∃ z0 z1 z2, redL op ks12 e14 = (z0, z1, z2) := ⟨_, _, _, rfl⟩
    have oks33 := red_ok (by decide) (by decide) oks12 hks33
    refine lstep (wpO_plain rfl (op_callX (F := 28) (ρ := M1) hs none none [2] [4, 5, 6] (v := fun r => .bool q32) (S1 := [(true, .own (.slice ad15 ks12.length cp16) 34 1 ks12.length vs17), (true, .own (.slice ad18 js13.length cp19) 34 1 js13.length us20), (true, .bysO G21 (vs17 ++ us20 ++ ([])) (ks12 ++ js13 ++ ([])))]) (bs1 := [(true, gm10, 61, [.slice ad15 ks12.length cp16, .slice ad18 js13.length cp19, .int .i64 ((e14 : Nat) : Int)])]) (E := fun r => [(true, .own (.slice r.a ks33.length r.c) 34 1 ks33.length r.vs), (true, .own (.slice ad18 js13.length cp19) 34 1 js13.length us20), (true, .bysO r.G (r.vs ++ us20 ++ ([])) (ks33 ++ js13 ++ ([])))]) (E1 := fun r => [(true, .own (.slice r.a ks33.length r.c) 34 1 ks33.length r.vs), (true, .own (.slice ad18 js13.length cp19) 34 1 js13.length us20), (true, .bysO r.G (r.vs ++ us20 ++ ([])) (ks33 ++ js13 ++ ([])))]) (E2 := fun r => []) (bfA := fun r => [(true, gm10, 61, [.slice r.a ks33.length r.c, .slice ad18 js13.length cp19, .int .i64 ((e35 : Nat) : Int)])]) (bf := fun r => [(true, gm10, 61, [.slice r.a ks33.length r.c, .slice ad18 js13.length cp19, .int .i64 ((e35 : Nat) : Int)])]) (bf2 := fun r => []) rfl rfl rfl rfl rfl (Try.call28 _) rfl rfl (by decide) (by decide) (fun Z X hm => reads_c gm10 ad15 cp16 vs17 ad18 cp19 us20 G21 ([]) ([]) ks12 js13 e14 op q32 ks33 e35 (oks12.mono (by decide)) hks33 _ _ _ hm) (fun _ => rfl) (fun _ => rfl) (fun _ => rfl) (fun _ => rfl) (fun _ => rfl) rfl fun ⟨ad36, cp37, vs38, G39⟩ ac w hs => ?_))
    refine lstep (wpO_plain rfl (op_assign hs none rfl rfl rfl rfl fun ac hs => ?_))
    refine wpList_nil ?_
    refine then_n ?_
    refine wp_cond_split (hs.ev rfl) (fun hc => ?_) (fun hc => ?_)
    · skip
      have hQ1 : q32 = true := hc
      refine wp_skip ?_
      refine then_n ?_
      refine wp_cond_true (hs.evb rfl hQ1) ?_
      refine wp_seq ?_
      replace hs : St 24 ⟨w0, [], [(true, .cel (.slice am ks.length cm) ks.length vs), (true, .bys vs ks), (true, .cel (.slice aa js.length ca) js.length us), (true, .bys us js), (true, .own (.slice ad36 ks33.length cp37) 34 1 ks33.length vs38), (true, .own (.slice ad18 js13.length cp19) 34 1 js13.length us20), (true, .bysO G39 (vs38 ++ us20 ++ ([])) (ks33 ++ js13 ++ ([])))], Z, X⟩ [(4, true, .pointer (some ⟨g2, 0, none⟩)), (5, true, .int .i64 0), (6, true, .pointer (some ⟨gm10, 0, none⟩))] [(true, g1, 24, [.slice am ks.length cm, .slice aa js.length ca]), (true, g2, 24, [.slice none 0 0, .slice none 0 0]), (true, gm10, 61, [.slice ad36 ks33.length cp37, .slice ad18 js13.length cp19, .int .i64 ((e35 : Nat) : Int)])] ac _ := hs.re ⟨rfl, rfl, rfl, trivial⟩
      refine wp_region_lit ?_
      refine lstep (wpO_plain rfl (op_move hs none rfl rfl rfl rfl fun ac hs => ?_))
      obtain ⟨ks40, js41, e42, hks40⟩ : ∃ z0 z1 z2, donL ks33 js13 e35 = (z0, z1, z2) := ⟨_, _, _, rfl⟩
      refine lstep (wpO_plain rfl (op_callX (F := 30) (ρ := M2) hs none none [2] [4, 5, 6] (v := fun r => .tuple #[.agg #[.slice r.a ks40.length r.c, .slice r.b js41.length r.d], .int .i64 ((e42 : Nat) : Int)]) (S1 := [(true, .own (.slice ad36 ks33.length cp37) 34 1 ks33.length vs38), (true, .own (.slice ad18 js13.length cp19) 34 1 js13.length us20), (true, .bysO G39 (vs38 ++ us20 ++ ([])) (ks33 ++ js13 ++ ([])))]) (bs1 := [(true, gm10, 61, [.slice ad36 ks33.length cp37, .slice ad18 js13.length cp19, .int .i64 ((e35 : Nat) : Int)])]) (E := fun r => [(true, .own (.slice r.a ks40.length r.c) 34 1 ks40.length r.vs), (true, .own (.slice r.b js41.length r.d) 34 1 js41.length r.us), (true, .bysO r.G (r.vs ++ r.us ++ ([])) (ks40 ++ js41 ++ ([])))]) (E1 := fun r => [(true, .own (.slice r.a ks40.length r.c) 34 1 ks40.length r.vs), (true, .own (.slice r.b js41.length r.d) 34 1 js41.length r.us), (true, .bysO r.G (r.vs ++ r.us ++ ([])) (ks40 ++ js41 ++ ([])))]) (E2 := fun r => []) (bfA := fun r => [(true, gm10, 61, [.slice ad36 ks33.length cp37, .slice ad18 js13.length cp19, .int .i64 ((e42 : Nat) : Int)])]) (bf := fun r => [(true, gm10, 61, [.slice ad36 ks33.length cp37, .slice ad18 js13.length cp19, .int .i64 ((e42 : Nat) : Int)])]) (bf2 := fun r => []) rfl rfl rfl rfl rfl (Try.call30 _) rfl rfl (by decide) (by decide) (fun Z X hm => done_c gm10 ad36 cp37 vs38 ad18 cp19 us20 G39 ([]) ([]) ks33 js13 e35 ks40 js41 e42 (oks33.mono (by decide)) (ojs13.mono (by decide)) hks40 _ _ _ hm) (fun _ => rfl) (fun _ => rfl) (fun _ => rfl) (fun _ => rfl) (fun _ => rfl) rfl fun ⟨ad43, cp44, vs45, ad46, cp47, us48, G49⟩ ac w hs => ?_))
      refine lstep (wpO_plain rfl (op_extract hs none rfl rfl rfl rfl rfl fun ac hs => ?_))
      refine lstep (wpO_plain rfl (op_extract hs none rfl rfl rfl rfl rfl fun ac hs => ?_))
      refine lstep (wpO_plain rfl (op_store hs 1 (vs := [.slice ad43 ks40.length cp44, .slice ad46 js41.length cp47]) rfl rfl rfl rfl rfl Try.sizeOf24 rfl rfl rfl rfl rfl fun w hs => ?_))
      refine lstep (wpO_plain rfl (op_assign hs none rfl rfl rfl rfl fun ac hs => ?_))
      refine wpList_nil ?_
      refine then_n ?_
      refine wp_ret ?_
      refine blk_r ?_
      refine then_r ?_
      have HS := hs
      have h0 := hp
      unfold doL at h0
      simp only [hks12, hks33, hQ0, hQ1, if_true, Bool.false_eq_true, if_false, hks40] at h0
      obtain ⟨hk, hj, he⟩ := inj3 h0
      subst hk
      subst hj
      subst he
      have hs := HS
      exact bodyPost_ret (res2 rfl (rv_c hs 1 (v := .agg #[.slice ad43 ks40.length cp44, .slice ad46 js41.length cp47]) rfl rfl Try.isAgg24 Try.sizeOf24 rfl) (rv_t hs rfl)) hs.defers ⟨⟨ad43, cp44, vs45, ad46, cp47, us48, G49⟩, rfl, ((hs.selS [0, 1, 2, 3, 4, 5, 6] rfl (by decide)).selB [] rfl (by decide)).mem⟩
    · skip
      have hQ1 : q32 = false := hc
      replace hs : St 24 ⟨w0, [], [(true, .cel (.slice am ks.length cm) ks.length vs), (true, .bys vs ks), (true, .cel (.slice aa js.length ca) js.length us), (true, .bys us js), (true, .own (.slice ad36 ks33.length cp37) 34 1 ks33.length vs38), (true, .own (.slice ad18 js13.length cp19) 34 1 js13.length us20), (true, .bysO G39 (vs38 ++ us20 ++ ([])) (ks33 ++ js13 ++ ([])))], Z, X⟩ [(0, true, .int .u8 ((op : Nat) : Int)), (4, true, .pointer (some ⟨g2, 0, none⟩)), (5, true, .int .i64 0), (6, true, .pointer (some ⟨gm10, 0, none⟩)), (9, true, .bool q32)] [(true, g1, 24, [.slice am ks.length cm, .slice aa js.length ca]), (true, g2, 24, [.slice none 0 0, .slice none 0 0]), (true, gm10, 61, [.slice ad36 ks33.length cp37, .slice ad18 js13.length cp19, .int .i64 ((e35 : Nat) : Int)])] ac _ := hs.re ⟨rfl, rfl, rfl, rfl, rfl, trivial⟩
      refine wp_region_lit ?_
      refine lstep (wpO_plain rfl (op_move hs none rfl rfl rfl rfl fun ac hs => ?_))
      refine lstep (wpO_plain rfl (op_move hs none rfl rfl rfl rfl fun ac hs => ?_))
      obtain ⟨q50, ks51, e53, hks51⟩ : ∃ z0 z1 z2, recL op ks33 e35 = (z0, z1, z2) := ⟨_, _, _, rfl⟩
      have oks51 := rec_ok (by decide) oks33 hks51
      refine lstep (wpO_plain rfl (op_callX (F := 29) (ρ := M1) hs none none [2] [4, 5, 6] (v := fun r => .bool q50) (S1 := [(true, .own (.slice ad36 ks33.length cp37) 34 1 ks33.length vs38), (true, .own (.slice ad18 js13.length cp19) 34 1 js13.length us20), (true, .bysO G39 (vs38 ++ us20 ++ ([])) (ks33 ++ js13 ++ ([])))]) (bs1 := [(true, gm10, 61, [.slice ad36 ks33.length cp37, .slice ad18 js13.length cp19, .int .i64 ((e35 : Nat) : Int)])]) (E := fun r => [(true, .own (.slice r.a ks51.length r.c) 34 1 ks51.length r.vs), (true, .own (.slice ad18 js13.length cp19) 34 1 js13.length us20), (true, .bysO r.G (r.vs ++ us20 ++ ([])) (ks51 ++ js13 ++ ([])))]) (E1 := fun r => [(true, .own (.slice r.a ks51.length r.c) 34 1 ks51.length r.vs), (true, .own (.slice ad18 js13.length cp19) 34 1 js13.length us20), (true, .bysO r.G (r.vs ++ us20 ++ ([])) (ks51 ++ js13 ++ ([])))]) (E2 := fun r => []) (bfA := fun r => [(true, gm10, 61, [.slice r.a ks51.length r.c, .slice ad18 js13.length cp19, .int .i64 ((e53 : Nat) : Int)])]) (bf := fun r => [(true, gm10, 61, [.slice r.a ks51.length r.c, .slice ad18 js13.length cp19, .int .i64 ((e53 : Nat) : Int)])]) (bf2 := fun r => []) rfl rfl rfl rfl rfl (Try.call29 _) rfl rfl (by decide) (by decide) (fun Z X hm => reckons_c gm10 ad36 cp37 vs38 ad18 cp19 us20 G39 ([]) ([]) ks33 js13 e35 op q50 ks51 e53 (oks33.mono (by decide)) hks51 _ _ _ hm) (fun _ => rfl) (fun _ => rfl) (fun _ => rfl) (fun _ => rfl) (fun _ => rfl) rfl fun ⟨ad54, cp55, vs56, G57⟩ ac w hs => ?_))
      refine lstep (wpO_plain rfl (op_assign hs none rfl rfl rfl rfl fun ac hs => ?_))
      refine wpList_nil ?_
      refine then_n ?_
      refine wp_cond_split (hs.ev rfl) (fun hc => ?_) (fun hc => ?_)
      · skip
        have hQ2 : q50 = true := hc
        refine wp_seq ?_
        refine wp_region_lit ?_
        refine lstep (wpO_plain rfl (op_move hs none rfl rfl rfl rfl fun ac hs => ?_))
        obtain ⟨ks58, js59, e60, hks58⟩ : ∃ z0 z1 z2, donL ks51 js13 e53 = (z0, z1, z2) := ⟨_, _, _, rfl⟩
        refine lstep (wpO_plain rfl (op_callX (F := 30) (ρ := M2) hs none none [2] [4, 5, 6] (v := fun r => .tuple #[.agg #[.slice r.a ks58.length r.c, .slice r.b js59.length r.d], .int .i64 ((e60 : Nat) : Int)]) (S1 := [(true, .own (.slice ad54 ks51.length cp55) 34 1 ks51.length vs56), (true, .own (.slice ad18 js13.length cp19) 34 1 js13.length us20), (true, .bysO G57 (vs56 ++ us20 ++ ([])) (ks51 ++ js13 ++ ([])))]) (bs1 := [(true, gm10, 61, [.slice ad54 ks51.length cp55, .slice ad18 js13.length cp19, .int .i64 ((e53 : Nat) : Int)])]) (E := fun r => [(true, .own (.slice r.a ks58.length r.c) 34 1 ks58.length r.vs), (true, .own (.slice r.b js59.length r.d) 34 1 js59.length r.us), (true, .bysO r.G (r.vs ++ r.us ++ ([])) (ks58 ++ js59 ++ ([])))]) (E1 := fun r => [(true, .own (.slice r.a ks58.length r.c) 34 1 ks58.length r.vs), (true, .own (.slice r.b js59.length r.d) 34 1 js59.length r.us), (true, .bysO r.G (r.vs ++ r.us ++ ([])) (ks58 ++ js59 ++ ([])))]) (E2 := fun r => []) (bfA := fun r => [(true, gm10, 61, [.slice ad54 ks51.length cp55, .slice ad18 js13.length cp19, .int .i64 ((e60 : Nat) : Int)])]) (bf := fun r => [(true, gm10, 61, [.slice ad54 ks51.length cp55, .slice ad18 js13.length cp19, .int .i64 ((e60 : Nat) : Int)])]) (bf2 := fun r => []) rfl rfl rfl rfl rfl (Try.call30 _) rfl rfl (by decide) (by decide) (fun Z X hm => done_c gm10 ad54 cp55 vs56 ad18 cp19 us20 G57 ([]) ([]) ks51 js13 e53 ks58 js59 e60 (oks51.mono (by decide)) (ojs13.mono (by decide)) hks58 _ _ _ hm) (fun _ => rfl) (fun _ => rfl) (fun _ => rfl) (fun _ => rfl) (fun _ => rfl) rfl fun ⟨ad61, cp62, vs63, ad64, cp65, us66, G67⟩ ac w hs => ?_))
        refine lstep (wpO_plain rfl (op_extract hs none rfl rfl rfl rfl rfl fun ac hs => ?_))
        refine lstep (wpO_plain rfl (op_extract hs none rfl rfl rfl rfl rfl fun ac hs => ?_))
        refine lstep (wpO_plain rfl (op_store hs 1 (vs := [.slice ad61 ks58.length cp62, .slice ad64 js59.length cp65]) rfl rfl rfl rfl rfl Try.sizeOf24 rfl rfl rfl rfl rfl fun w hs => ?_))
        refine lstep (wpO_plain rfl (op_assign hs none rfl rfl rfl rfl fun ac hs => ?_))
        refine wpList_nil ?_
        refine then_n ?_
        refine wp_ret ?_
        refine blk_r ?_
        refine then_r ?_
        have HS := hs
        have h0 := hp
        unfold doL at h0
        simp only [hks12, hks33, hks51, hQ0, hQ1, hQ2, if_true, Bool.false_eq_true, if_false, hks58] at h0
        obtain ⟨hk, hj, he⟩ := inj3 h0
        subst hk
        subst hj
        subst he
        have hs := HS
        exact bodyPost_ret (res2 rfl (rv_c hs 1 (v := .agg #[.slice ad61 ks58.length cp62, .slice ad64 js59.length cp65]) rfl rfl Try.isAgg24 Try.sizeOf24 rfl) (rv_t hs rfl)) hs.defers ⟨⟨ad61, cp62, vs63, ad64, cp65, us66, G67⟩, rfl, ((hs.selS [0, 1, 2, 3, 4, 5, 6] rfl (by decide)).selB [] rfl (by decide)).mem⟩
      · skip
        have hQ2 : q50 = false := hc
        refine wp_skip ?_
        refine blk_n ?_
        refine then_n ?_
        refine wp_seq ?_
        refine wp_region_lit ?_
        refine lstep (wpO_plain rfl (op_build hs none (qs := []) (v := .agg #[.slice none 0 0, .slice none 0 0]) rfl rfl rfl rfl (fun _ => by kernel_rfl) rfl fun ac hs => ?_))
        refine lstep (wpO_plain rfl (op_store hs 1 (vs := [.slice none 0 0, .slice none 0 0]) rfl rfl rfl rfl rfl Try.sizeOf24 rfl rfl rfl rfl rfl fun w hs => ?_))
        refine lstep (wpO_plain rfl (op_assign hs none rfl rfl rfl rfl fun ac hs => ?_))
        refine wpList_nil ?_
        refine then_n ?_
        refine wp_ret ?_
        have HS := hs
        have h0 := hp
        unfold doL at h0
        simp only [hks12, hks33, hks51, hQ0, hQ1, hQ2, Bool.false_eq_true, if_false] at h0
        obtain ⟨hk, hj, he⟩ := inj3 h0
        subst hk
        subst hj
        subst he
        have hs := HS
        replace hs := hs.nilOwn none 34 1 rfl
        replace hs := hs.nilOwn none 34 1 rfl
        have hlv := (hs.ownLen 4 rfl)
        have hlu := (hs.ownLen 5 rfl)
        replace hs := hs.cutB (j := 0) 6 hlv hlu rfl
        replace hs := hs.cutA (j := 0) 6 rfl hlu rfl
        exact bodyPost_ret (res2 rfl (rv_c hs 1 (v := .agg #[.slice none 0 0, .slice none 0 0]) rfl rfl Try.isAgg24 Try.sizeOf24 rfl) (rv_t hs rfl)) hs.defers ⟨⟨none, 0, [], none, 0, [], G57⟩, rfl, ((hs.selS [0, 1, 2, 3, 7, 8, 6] rfl (by decide)).selB [] rfl (by decide)).mem⟩
theorem popn_c (am : Option Addr) (cm : Nat) (vs : List Value) (aa : Option Addr) (ca : Nat) (us : List Value) (ks js : BL) (most : Int) (z : Int) (x : List UInt8) (k1 j1 : BL) (e1 : Nat) (ok : OkN 1000 ks) (oj : OkN 1000 js) (hx0 : (popL ks 0).1 = x) (hp : popN most ks js = (z, k1, j1, e1)) (w0 : World) (Z X : Nat → Prop) (hm : Mem ⟨w0, [], [(true, .cel (.slice am ks.length cm) ks.length vs), (true, .bys vs ks), (true, .cel (.slice aa js.length ca) js.length us), (true, .bys us js)], Z, X⟩ [] w0) : Calls Try.prog 23 #[.agg #[.slice am ks.length cm, .slice aa js.length ca], .int .i64 most] w0 fun e w' => PostX w0 Z X (ρ := M2x) (fun r => .tuple #[.int .i64 z, .agg #[.slice r.a k1.length r.c, .slice r.b j1.length r.d], .int .i64 ((e1 : Nat) : Int)]) (fun r => []) (fun r => [(true, .cel (.slice am ks.length cm) ks.length vs), (true, .bys vs ks), (true, .cel (.slice aa js.length ca) js.length us), (true, .bys us js), (true, .own (.slice r.a k1.length r.c) 34 1 k1.length r.vs), (true, .own (.slice r.b j1.length r.d) 34 1 j1.length r.us), (true, .bysO r.G (r.vs ++ r.us ++ ([] ++ [.slice r.x x.length r.y])) (k1 ++ j1 ++ ([] ++ [x])))]) e w' := by
  have hk8 : ks.length ≤ 1000 := ok.1
  have hj8 : js.length ≤ 1000 := oj.1
  refine enterX (n := 36) (args := [.agg #[.slice am ks.length cm, .slice aa js.length ca], .int .i64 most]) Try.func23 rfl rfl (Nat.le_of_ble_eq_true rfl) hm fun ac hs => ?_
  refine wp_seq ?_
  refine wp_region_lit ?_
  refine lstep (wpO_plain rfl (op_box hs none none (cs := [.slice am ks.length cm, .slice aa js.length ca]) rfl rfl rfl rfl rfl rfl fun g1 ac w hs => ?_))
  refine lstep (wpO_plain rfl (op_assign hs none rfl rfl rfl rfl fun ac hs => ?_))
  refine lstep (wpO_plain rfl (op_alloc hs none none (cs := [.slice none 0 0, .slice none 0 0]) rfl rfl Try.zeroValue24 (by kernel_rfl) rfl rfl fun g2 ac w hs => ?_))
  refine lstep (wpO_plain rfl (op_assign hs none rfl rfl rfl rfl fun ac hs => ?_))
  refine wpList_nil ?_
  refine then_n ?_
  refine wp_seq ?_
  refine wp_region_lit ?_
  refine lstep (wpO_plain rfl (op_load hs none 0 (v := .agg #[.slice am ks.length cm, .slice aa js.length ca]) rfl rfl rfl rfl Try.isAgg24 Try.sizeOf24 rfl rfl fun ac hs => ?_))
  refine lstep (wpO_plain rfl (op_callX (F := 26) (ρ := M2g) hs none none [] [0, 1, 2, 3] (v := fun r => .pointer (some ⟨r.o, 0, none⟩)) (S1 := [(true, .cel (.slice am ks.length cm) ks.length vs), (true, .bys vs ks), (true, .cel (.slice aa js.length ca) js.length us), (true, .bys us js)]) (bs1 := []) (E := fun r => [(true, .cel (.slice am ks.length cm) ks.length vs), (true, .bys vs ks), (true, .cel (.slice aa js.length ca) js.length us), (true, .bys us js), (true, .own (.slice r.a ks.length r.c) 34 1 ks.length r.vs), (true, .own (.slice r.b js.length r.d) 34 1 js.length r.us), (true, .bysO r.G (r.vs ++ r.us ++ ([])) (ks ++ js ++ ([])))]) (E1 := fun r => [(true, .cel (.slice am ks.length cm) ks.length vs), (true, .bys vs ks), (true, .cel (.slice aa js.length ca) js.length us), (true, .bys us js)]) (E2 := fun r => [.own (.slice r.a ks.length r.c) 34 1 ks.length r.vs, .own (.slice r.b js.length r.d) 34 1 js.length r.us, .bysO r.G (r.vs ++ r.us ++ ([])) (ks ++ js ++ ([]))]) (bfA := fun r => [(true, r.o, 61, [.slice r.a ks.length r.c, .slice r.b js.length r.d, .int .i64 0])]) (bf := fun r => []) (bf2 := fun r => [(true, r.o, 61, [.slice r.a ks.length r.c, .slice r.b js.length r.d, .int .i64 0])]) rfl rfl rfl rfl rfl (Try.call26 _) rfl rfl (by decide) (by decide) (fun Z X hm => load_c am cm vs aa ca us ks js (ok.mono (by decide)) (oj.mono (by decide)) _ _ _ hm) (fun _ => rfl) (fun _ => rfl) (fun _ => rfl) (fun _ => rfl) (fun _ => rfl) rfl fun ⟨ad3, cp4, vs5, ad6, cp7, us8, G9, gm10⟩ ac w hs => ?_))
  refine lstep (wpO_plain rfl (op_assign hs none rfl rfl rfl rfl fun ac hs => ?_))
  refine wpList_nil ?_
  refine then_n ?_
  refine wp_seq ?_
  replace hs : St 36 ⟨w0, [], [(true, .cel (.slice am ks.length cm) ks.length vs), (true, .bys vs ks), (true, .cel (.slice aa js.length ca) js.length us), (true, .bys us js), (true, .own (.slice ad3 ks.length cp4) 34 1 ks.length vs5), (true, .own (.slice ad6 js.length cp7) 34 1 js.length us8), (true, .bysO G9 (vs5 ++ us8 ++ ([])) (ks ++ js ++ ([])))], Z, X⟩ [(1, true, .int .i64 most), (4, true, .int .i64 0), (5, true, .pointer (some ⟨g2, 0, none⟩)), (6, true, .int .i64 0), (7, true, .pointer (some ⟨gm10, 0, none⟩))] [(true, g1, 24, [.slice am ks.length cm, .slice aa js.length ca]), (true, g2, 24, [.slice none 0 0, .slice none 0 0]), (true, gm10, 61, [.slice ad3 ks.length cp4, .slice ad6 js.length cp7, .int .i64 0])] ac _ := hs.re ⟨rfl, rfl, rfl, rfl, rfl, trivial⟩
  refine wp_region_lit ?_
  refine lstep (wpO_plain rfl (op_move hs none rfl rfl rfl rfl fun ac hs => ?_))
  refine lstep (wpO_plain rfl (op_move hs none rfl rfl rfl rfl fun ac hs => ?_))
  obtain ⟨p11, ks12, e13, hks12⟩ : ∃ z0 z1 z2, popL ks 0 = (z0, z1, z2) := ⟨_, _, _, rfl⟩
  obtain ⟨oks12, lp11⟩ := pop_ok ok hks12
  replace lp11 : p11.length ≤ 8000 := Nat.le_trans lp11 (by decide)
  refine lstep (wpO_plain rfl (op_callX (F := 39) (ρ := M1x) hs none none [2] [4, 5, 6] (v := fun r => .slice r.x p11.length r.y) (S1 := [(true, .own (.slice ad3 ks.length cp4) 34 1 ks.length vs5), (true, .own (.slice ad6 js.length cp7) 34 1 js.length us8), (true, .bysO G9 (vs5 ++ us8 ++ ([])) (ks ++ js ++ ([])))]) (bs1 := [(true, gm10, 61, [.slice ad3 ks.length cp4, .slice ad6 js.length cp7, .int .i64 0])]) (E := fun r => [(true, .own (.slice r.a ks12.length r.c) 34 1 ks12.length r.vs), (true, .own (.slice ad6 js.length cp7) 34 1 js.length us8), (true, .bysO G9 (r.vs ++ us8 ++ (([]) ++ [.slice r.x p11.length r.y])) (ks12 ++ js ++ (([]) ++ [p11])))]) (E1 := fun r => [(true, .own (.slice r.a ks12.length r.c) 34 1 ks12.length r.vs), (true, .own (.slice ad6 js.length cp7) 34 1 js.length us8), (true, .bysO G9 (r.vs ++ us8 ++ (([]) ++ [.slice r.x p11.length r.y])) (ks12 ++ js ++ (([]) ++ [p11])))]) (E2 := fun r => []) (bfA := fun r => [(true, gm10, 61, [.slice r.a ks12.length r.c, .slice ad6 js.length cp7, .int .i64 ((e13 : Nat) : Int)])]) (bf := fun r => [(true, gm10, 61, [.slice r.a ks12.length r.c, .slice ad6 js.length cp7, .int .i64 ((e13 : Nat) : Int)])]) (bf2 := fun r => []) rfl rfl rfl rfl rfl (Try.call39 _) rfl rfl (by decide) (by decide) (fun Z X hm => pop_c gm10 ad3 cp4 vs5 ad6 cp7 us8 G9 ([]) ([]) ks js 0 p11 ks12 e13 (ok.mono (by decide)) hks12 _ _ _ hm) (fun _ => rfl) (fun _ => rfl) (fun _ => rfl) (fun _ => rfl) (fun _ => rfl) rfl fun ⟨ad14, cp15, vs16, ad17, cp18⟩ ac w hs => ?_))
  refine lstep (wpO_plain rfl (op_move hs none rfl rfl rfl rfl fun ac hs => ?_))
  obtain ⟨z19, e20, hz19⟩ : ∃ z0 z1, readL p11 most e13 = (z0, z1) := ⟨_, _, rfl⟩
  have xz19 := (mem_last3 (hs.bLen 6 rfl))
  refine lstep (wpO_plain rfl (op_callX (F := 40) (ρ := Unit) hs none none [2] [6] (v := fun r => .int .i64 z19) (S1 := [(true, .bysO G9 (vs16 ++ us8 ++ (([]) ++ [.slice ad17 p11.length cp18])) (ks12 ++ js ++ (([]) ++ [p11])))]) (bs1 := [(true, gm10, 61, [.slice ad14 ks12.length cp15, .slice ad6 js.length cp7, .int .i64 ((e13 : Nat) : Int)])]) (E := fun r => [(true, .bysO G9 (vs16 ++ us8 ++ (([]) ++ [.slice ad17 p11.length cp18])) (ks12 ++ js ++ (([]) ++ [p11])))]) (E1 := fun r => [(true, .bysO G9 (vs16 ++ us8 ++ (([]) ++ [.slice ad17 p11.length cp18])) (ks12 ++ js ++ (([]) ++ [p11])))]) (E2 := fun r => []) (bfA := fun r => [(true, gm10, 61, [.slice ad14 ks12.length cp15, .slice ad6 js.length cp7, .int .i64 ((e20 : Nat) : Int)])]) (bf := fun r => [(true, gm10, 61, [.slice ad14 ks12.length cp15, .slice ad6 js.length cp7, .int .i64 ((e20 : Nat) : Int)])]) (bf2 := fun r => []) rfl rfl rfl rfl rfl (Try.call40 _) rfl rfl (by decide) (by decide) (fun Z X hm => read_c gm10 (.slice ad14 ks12.length cp15) (.slice ad6 js.length cp7) G9 _ _ ad17 cp18 p11 most e13 z19 e20 lp11 xz19 hz19 _ _ _ hm) (fun _ => rfl) (fun _ => rfl) (fun _ => rfl) (fun _ => rfl) (fun _ => rfl) rfl fun _ ac w hs => ?_))
  refine lstep (wpO_plain rfl (op_assign hs none rfl rfl rfl rfl fun ac hs => ?_))
  refine wpList_nil ?_
  refine then_n ?_
  refine wp_seq ?_
  refine wp_seq ?_
  replace hs : St 36 ⟨w0, [], [(true, .cel (.slice am ks.length cm) ks.length vs), (true, .bys vs ks), (true, .cel (.slice aa js.length ca) js.length us), (true, .bys us js), (true, .own (.slice ad14 ks12.length cp15) 34 1 ks12.length vs16), (true, .own (.slice ad6 js.length cp7) 34 1 js.length us8), (true, .bysO G9 (vs16 ++ us8 ++ (([]) ++ [.slice ad17 p11.length cp18])) (ks12 ++ js ++ (([]) ++ [p11])))], Z, X⟩ [(4, true, .int .i64 0), (5, true, .pointer (some ⟨g2, 0, none⟩)), (6, true, .int .i64 0), (7, true, .pointer (some ⟨gm10, 0, none⟩)), (8, true, .int .i64 z19)] [(true, g1, 24, [.slice am ks.length cm, .slice aa js.length ca]), (true, g2, 24, [.slice none 0 0, .slice none 0 0]), (true, gm10, 61, [.slice ad14 ks12.length cp15, .slice ad6 js.length cp7, .int .i64 ((e20 : Nat) : Int)])] ac _ := hs.re ⟨rfl, rfl, rfl, rfl, rfl, trivial⟩
  refine wp_region_lit ?_
  refine lstep (wpO_plain rfl (op_move hs none rfl rfl rfl rfl fun ac hs => ?_))
  refine lstep (wpO_plain rfl (op_nilCheck hs none rfl rfl rfl rfl fun ac hs => ?_))
  refine lstep (wpO_plain rfl (op_fieldA hs none rfl rfl rfl Try.underlying61 rfl Try.sizeOf28 (by decide) rfl fun ac hs => ?_))
  refine lstep (wpO_plain rfl (op_load hs none 2 (v := .int .i64 ((e20 : Nat) : Int)) rfl rfl rfl rfl Try.isAgg28 Try.sizeOf28 rfl rfl fun ac hs => ?_))
  refine lstep (wpO_plain rfl (op_bin hs none (v := .bool (decide (e20 ≠ 0))) rfl rfl rfl rfl (fun _ => rfl) (bin_neqN (x := e20) (y := 0)) rfl fun ac hs => ?_))
  refine wpList_nil ?_
  refine then_n ?_
  refine wp_cond_split (hs.ev rfl) (fun hc => ?_) (fun hc => ?_)
  · skip
    have hp21 := of_decide_eq_true hc
    refine wp_seq ?_
    replace hs : St 36 ⟨w0, [], [(true, .cel (.slice am ks.length cm) ks.length vs), (true, .bys vs ks), (true, .cel (.slice aa js.length ca) js.length us), (true, .bys us js), (true, .own (.slice ad14 ks12.length cp15) 34 1 ks12.length vs16), (true, .own (.slice ad6 js.length cp7) 34 1 js.length us8), (true, .bysO G9 (vs16 ++ us8 ++ (([]) ++ [.slice ad17 p11.length cp18])) (ks12 ++ js ++ (([]) ++ [p11])))], Z, X⟩ [(4, true, .int .i64 0), (5, true, .pointer (some ⟨g2, 0, none⟩)), (6, true, .int .i64 0), (7, true, .pointer (some ⟨gm10, 0, none⟩)), (8, true, .int .i64 z19)] [(true, g1, 24, [.slice am ks.length cm, .slice aa js.length ca]), (true, g2, 24, [.slice none 0 0, .slice none 0 0]), (true, gm10, 61, [.slice ad14 ks12.length cp15, .slice ad6 js.length cp7, .int .i64 ((e20 : Nat) : Int)])] ac _ := hs.re ⟨rfl, rfl, rfl, rfl, rfl, trivial⟩
    refine region_inv [([], [6, 7]), ([], [2, 3, 4, 7]), ([1], [3, 4, 7]), ([1, 2], [4, 7]), ([1, 2, 3], [7]), ([], [6, 7]), ([0, 5], [7]), ([0, 1, 2, 3, 4, 5, 6], [])] (fun L ac w => St 36 ⟨w0, [], [(true, .cel (.slice am ks.length cm) ks.length vs), (true, .bys vs ks), (true, .cel (.slice aa js.length ca) js.length us), (true, .bys us js), (true, .own (.slice ad14 ks12.length cp15) 34 1 ks12.length vs16), (true, .own (.slice ad6 js.length cp7) 34 1 js.length us8), (true, .bysO G9 (vs16 ++ us8 ++ (([]) ++ [.slice ad17 p11.length cp18])) (ks12 ++ js ++ (([]) ++ [p11])))], Z, X⟩ [(21, L 0, .agg #[.slice none 0 0, .slice none 0 0]), (22, L 1, .pointer (some ⟨gm10, 0, none⟩)), (23, L 2, .pointer (some ⟨gm10, 0, none⟩)), (24, L 3, .pointer (some ⟨gm10, 2, none⟩)), (25, L 4, .int .i64 ((e20 : Nat) : Int)), (4, L 5, .int .i64 0), (6, L 7, .int .i64 ((e20 : Nat) : Int)), (4, true, .int .i64 0), (5, true, .pointer (some ⟨g2, 0, none⟩)), (6, true, .int .i64 0), (7, true, .pointer (some ⟨gm10, 0, none⟩)), (8, true, .int .i64 z19)] [(true, g1, 24, [.slice am ks.length cm, .slice aa js.length ca]), (true, g2, 24, (cond (L 6) [.slice none 0 0, .slice none 0 0] [.slice none 0 0, .slice none 0 0])), (true, gm10, 61, [.slice ad14 ks12.length cp15, .slice ad6 js.length cp7, .int .i64 ((e20 : Nat) : Int)])] ac w) (by kernel_rfl) (by kernel_rfl) ?_ ?_ ?_
    · exact hs.drew.skip.skip.skip.skip.skip.skip.skip
    · refine ⟨?_, ?_, ?_, ?_, ?_, ?_, ?_, ?_, trivial⟩
      · intro L ac w hJ
        have hs := hJ
        refine wpO_plain rfl (op_build hs (some 0) (qs := []) (v := .agg #[.slice none 0 0, .slice none 0 0]) rfl rfl rfl rfl (fun _ => by kernel_rfl) rfl fun ac hs => ?_)
        exact hs
      · intro L ac w hJ
        have hs := hJ
        refine wpO_plain rfl (op_move hs (some 1) rfl rfl rfl rfl fun ac hs => ?_)
        exact hs
      · intro L ac w hJ
        have hs := hJ
        refine wpO_plain rfl (op_nilCheck hs (some 2) rfl rfl rfl rfl fun ac hs => ?_)
        exact hs
      · intro L ac w hJ
        have hs := hJ
        refine wpO_plain rfl (op_fieldA hs (some 3) rfl rfl rfl Try.underlying61 rfl Try.sizeOf28 (by decide) rfl fun ac hs => ?_)
        exact hs
      · intro L ac w hJ
        have hs := hJ
        refine wpO_plain rfl (op_load hs (some 4) 2 (v := .int .i64 ((e20 : Nat) : Int)) rfl rfl rfl rfl Try.isAgg28 Try.sizeOf28 rfl rfl fun ac hs => ?_)
        exact hs
      · intro L ac w hJ
        have hs := hJ
        refine wpO_plain rfl (op_assign hs (some 5) rfl rfl rfl rfl fun ac hs => ?_)
        exact hs
      · intro L ac w hJ
        have hs := hJ
        refine wpO_plain rfl (op_store hs 1 (vs := [.slice none 0 0, .slice none 0 0]) rfl rfl rfl rfl rfl Try.sizeOf24 rfl rfl rfl rfl rfl fun w hs => ?_)
        exact hs
      · intro L ac w hJ
        have hs := hJ
        refine wpO_plain rfl (op_assign hs (some 6) rfl rfl rfl rfl fun ac hs => ?_)
        exact hs
    intro ac w hJ
    replace hs : St 36 ⟨w0, [], [(true, .cel (.slice am ks.length cm) ks.length vs), (true, .bys vs ks), (true, .cel (.slice aa js.length ca) js.length us), (true, .bys us js), (true, .own (.slice ad14 ks12.length cp15) 34 1 ks12.length vs16), (true, .own (.slice ad6 js.length cp7) 34 1 js.length us8), (true, .bysO G9 (vs16 ++ us8 ++ (([]) ++ [.slice ad17 p11.length cp18])) (ks12 ++ js ++ (([]) ++ [p11])))], Z, X⟩ [(21, true, .agg #[.slice none 0 0, .slice none 0 0]), (22, true, .pointer (some ⟨gm10, 0, none⟩)), (23, true, .pointer (some ⟨gm10, 0, none⟩)), (24, true, .pointer (some ⟨gm10, 2, none⟩)), (25, true, .int .i64 ((e20 : Nat) : Int)), (4, true, .int .i64 0), (6, true, .int .i64 ((e20 : Nat) : Int)), (4, true, .int .i64 0), (5, true, .pointer (some ⟨g2, 0, none⟩)), (6, true, .int .i64 0), (7, true, .pointer (some ⟨gm10, 0, none⟩)), (8, true, .int .i64 z19)] [(true, g1, 24, [.slice am ks.length cm, .slice aa js.length ca]), (true, g2, 24, [.slice none 0 0, .slice none 0 0]), (true, gm10, 61, [.slice ad14 ks12.length cp15, .slice ad6 js.length cp7, .int .i64 ((e20 : Nat) : Int)])] ac w := hJ
    refine then_n ?_
    refine wp_ret ?_
    refine then_r ?_
    have HS := hs
    have h0 := hp
    unfold popN at h0
    simp only [hks12, hz19] at h0
    rw [if_neg hp21] at h0
    obtain ⟨hx, hk, hj, he⟩ := inj4 h0
    subst hx
    subst hk
    subst hj
    subst he
    rw [hks12] at hx0
    replace hx0 : p11 = x := hx0
    subst hx0
    have hs := HS
    replace hs := hs.nilOwn none 34 1 rfl
    replace hs := hs.nilOwn none 34 1 rfl
    have hlv := (hs.ownLen 4 rfl)
    have hlu := (hs.ownLen 5 rfl)
    replace hs := hs.cutB (j := 0) 6 hlv hlu rfl
    replace hs := hs.cutA (j := 0) 6 rfl hlu rfl
    exact bodyPost_ret (res3 rfl (rv_t hs rfl) (rv_c hs 1 (v := .agg #[.slice none 0 0, .slice none 0 0]) rfl rfl Try.isAgg24 Try.sizeOf24 rfl) (rv_t hs rfl)) hs.defers ⟨⟨none, 0, [], none, 0, [], G9, ad17, cp18⟩, rfl, ((hs.selS [0, 1, 2, 3, 7, 8, 6] rfl (by decide)).selB [] rfl (by decide)).mem⟩
  · skip
    have hp22 := of_decide_eq_false hc
    refine wp_skip ?_
    refine then_n ?_
    refine wp_seq ?_
    replace hs : St 36 ⟨w0, [], [(true, .cel (.slice am ks.length cm) ks.length vs), (true, .bys vs ks), (true, .cel (.slice aa js.length ca) js.length us), (true, .bys us js), (true, .own (.slice ad14 ks12.length cp15) 34 1 ks12.length vs16), (true, .own (.slice ad6 js.length cp7) 34 1 js.length us8), (true, .bysO G9 (vs16 ++ us8 ++ (([]) ++ [.slice ad17 p11.length cp18])) (ks12 ++ js ++ (([]) ++ [p11])))], Z, X⟩ [(4, true, .int .i64 0), (5, true, .pointer (some ⟨g2, 0, none⟩)), (6, true, .int .i64 0), (7, true, .pointer (some ⟨gm10, 0, none⟩)), (8, true, .int .i64 z19)] [(true, g1, 24, [.slice am ks.length cm, .slice aa js.length ca]), (true, g2, 24, [.slice none 0 0, .slice none 0 0]), (true, gm10, 61, [.slice ad14 ks12.length cp15, .slice ad6 js.length cp7, .int .i64 ((e20 : Nat) : Int)])] ac _ := hs.re ⟨rfl, rfl, rfl, rfl, rfl, trivial⟩
    refine region_inv [([], [10, 11, 12]), ([], [2, 3, 4, 9, 11, 12]), ([1], [3, 4, 9, 11, 12]), ([1, 2], [4, 9, 11, 12]), ([1, 2, 3], [9, 11, 12]), ([], [6, 7, 8, 9, 11, 12]), ([5], [7, 8, 9, 11, 12]), ([5, 6], [8, 9, 11, 12]), ([5, 6, 7], [9, 11, 12]), ([1, 2, 3, 4, 5, 6, 7, 8], [11, 12]), ([0], [11, 12]), ([0, 1, 2, 3, 4, 5, 6, 7, 8, 9, 10], [12]), ([0, 1, 2, 3, 4, 5, 6, 7, 8, 9, 10, 11], [])] (fun L ac w => St 36 ⟨w0, [], [(true, .cel (.slice am ks.length cm) ks.length vs), (true, .bys vs ks), (true, .cel (.slice aa js.length ca) js.length us), (true, .bys us js), (true, .own (.slice ad14 ks12.length cp15) 34 1 ks12.length vs16), (true, .own (.slice ad6 js.length cp7) 34 1 js.length us8), (true, .bysO G9 (vs16 ++ us8 ++ (([]) ++ [.slice ad17 p11.length cp18])) (ks12 ++ js ++ (([]) ++ [p11])))], Z, X⟩ [(26, L 0, .int .i64 z19), (27, L 1, .pointer (some ⟨gm10, 0, none⟩)), (28, L 2, .pointer (some ⟨gm10, 0, none⟩)), (29, L 3, .pointer (some ⟨gm10, 0, none⟩)), (30, L 4, .slice ad14 ks12.length cp15), (31, L 5, .pointer (some ⟨gm10, 0, none⟩)), (32, L 6, .pointer (some ⟨gm10, 0, none⟩)), (33, L 7, .pointer (some ⟨gm10, 1, none⟩)), (34, L 8, .slice ad6 js.length cp7), (35, L 9, .agg #[.slice ad14 ks12.length cp15, .slice ad6 js.length cp7]), (4, L 10, .int .i64 z19), (6, L 12, .int .i64 0), (4, true, .int .i64 0), (5, true, .pointer (some ⟨g2, 0, none⟩)), (6, true, .int .i64 0), (7, true, .pointer (some ⟨gm10, 0, none⟩)), (8, true, .int .i64 z19)] [(true, g1, 24, [.slice am ks.length cm, .slice aa js.length ca]), (true, g2, 24, (cond (L 11) [.slice ad14 ks12.length cp15, .slice ad6 js.length cp7] [.slice none 0 0, .slice none 0 0])), (true, gm10, 61, [.slice ad14 ks12.length cp15, .slice ad6 js.length cp7, .int .i64 ((e20 : Nat) : Int)])] ac w) (by kernel_rfl) (by kernel_rfl) ?_ ?_ ?_
    · exact hs.drew.skip.skip.skip.skip.skip.skip.skip.skip.skip.skip.skip.skip
    · refine ⟨?_, ?_, ?_, ?_, ?_, ?_, ?_, ?_, ?_, ?_, ?_, ?_, ?_, trivial⟩
      · intro L ac w hJ
        have hs := hJ
        refine wpO_plain rfl (op_move hs (some 0) rfl rfl rfl rfl fun ac hs => ?_)
        exact hs
      · intro L ac w hJ
        have hs := hJ
        refine wpO_plain rfl (op_move hs (some 1) rfl rfl rfl rfl fun ac hs => ?_)
        exact hs
      · intro L ac w hJ
        have hs := hJ
        refine wpO_plain rfl (op_nilCheck hs (some 2) rfl rfl rfl rfl fun ac hs => ?_)
        exact hs
      · intro L ac w hJ
        have hs := hJ
        refine wpO_plain rfl (op_fieldA hs (some 3) rfl rfl rfl Try.underlying61 rfl Try.sizeOf22 (by decide) rfl fun ac hs => ?_)
        exact hs
      · intro L ac w hJ
        have hs := hJ
        refine wpO_plain rfl (op_load hs (some 4) 2 (v := .slice ad14 ks12.length cp15) rfl rfl rfl rfl Try.isAgg22 Try.sizeOf22 rfl rfl fun ac hs => ?_)
        exact hs
      · intro L ac w hJ
        have hs := hJ
        refine wpO_plain rfl (op_move hs (some 5) rfl rfl rfl rfl fun ac hs => ?_)
        exact hs
      · intro L ac w hJ
        have hs := hJ
        refine wpO_plain rfl (op_nilCheck hs (some 6) rfl rfl rfl rfl fun ac hs => ?_)
        exact hs
      · intro L ac w hJ
        have hs := hJ
        refine wpO_plain rfl (op_fieldA hs (some 7) rfl rfl rfl Try.underlying61 rfl Try.sizeOf22 (by decide) rfl fun ac hs => ?_)
        exact hs
      · intro L ac w hJ
        have hs := hJ
        refine wpO_plain rfl (op_load hs (some 8) 2 (v := .slice ad6 js.length cp7) rfl rfl rfl rfl Try.isAgg22 Try.sizeOf22 rfl rfl fun ac hs => ?_)
        exact hs
      · intro L ac w hJ
        have hs := hJ
        refine wpO_plain rfl (op_build hs (some 9) (qs := [(0, .slice ad14 ks12.length cp15), (1, .slice ad6 js.length cp7)]) (v := .agg #[.slice ad14 ks12.length cp15, .slice ad6 js.length cp7]) rfl rfl rfl rfl (fun _ => by kernel_rfl) rfl fun ac hs => ?_)
        exact hs
      · intro L ac w hJ
        have hs := hJ
        refine wpO_plain rfl (op_assign hs (some 10) rfl rfl rfl rfl fun ac hs => ?_)
        exact hs
      · intro L ac w hJ
        have hs := hJ
        refine wpO_plain rfl (op_store hs 1 (vs := [.slice ad14 ks12.length cp15, .slice ad6 js.length cp7]) rfl rfl rfl rfl rfl Try.sizeOf24 rfl rfl rfl rfl rfl fun w hs => ?_)
        exact hs
      · intro L ac w hJ
        have hs := hJ
        refine wpO_plain rfl (op_assign hs (some 11) rfl rfl rfl rfl fun ac hs => ?_)
        exact hs
    intro ac w hJ
    replace hs : St 36 ⟨w0, [], [(true, .cel (.slice am ks.length cm) ks.length vs), (true, .bys vs ks), (true, .cel (.slice aa js.length ca) js.length us), (true, .bys us js), (true, .own (.slice ad14 ks12.length cp15) 34 1 ks12.length vs16), (true, .own (.slice ad6 js.length cp7) 34 1 js.length us8), (true, .bysO G9 (vs16 ++ us8 ++ (([]) ++ [.slice ad17 p11.length cp18])) (ks12 ++ js ++ (([]) ++ [p11])))], Z, X⟩ [(26, true, .int .i64 z19), (27, true, .pointer (some ⟨gm10, 0, none⟩)), (28, true, .pointer (some ⟨gm10, 0, none⟩)), (29, true, .pointer (some ⟨gm10, 0, none⟩)), (30, true, .slice ad14 ks12.length cp15), (31, true, .pointer (some ⟨gm10, 0, none⟩)), (32, true, .pointer (some ⟨gm10, 0, none⟩)), (33, true, .pointer (some ⟨gm10, 1, none⟩)), (34, true, .slice ad6 js.length cp7), (35, true, .agg #[.slice ad14 ks12.length cp15, .slice ad6 js.length cp7]), (4, true, .int .i64 z19), (6, true, .int .i64 0), (4, true, .int .i64 0), (5, true, .pointer (some ⟨g2, 0, none⟩)), (6, true, .int .i64 0), (7, true, .pointer (some ⟨gm10, 0, none⟩)), (8, true, .int .i64 z19)] [(true, g1, 24, [.slice am ks.length cm, .slice aa js.length ca]), (true, g2, 24, [.slice ad14 ks12.length cp15, .slice ad6 js.length cp7]), (true, gm10, 61, [.slice ad14 ks12.length cp15, .slice ad6 js.length cp7, .int .i64 ((e20 : Nat) : Int)])] ac w := hJ
    refine then_n ?_
    refine wp_ret ?_
    have HS := hs
    have h0 := hp
    unfold popN at h0
    simp only [hks12, hz19] at h0
    rw [if_pos (Classical.not_not.1 hp22)] at h0
    obtain ⟨hx, hk, hj, he⟩ := inj4 h0
    subst hx
    subst hk
    subst hj
    subst he
    obtain rfl : e20 = 0 := Classical.not_not.1 hp22
    rw [hks12] at hx0
    replace hx0 : p11 = x := hx0
    subst hx0
    have hs := HS
    exact bodyPost_ret (res3 rfl (rv_t hs rfl) (rv_c hs 1 (v := .agg #[.slice ad14 ks12.length cp15, .slice ad6 js.length cp7]) rfl rfl Try.isAgg24 Try.sizeOf24 rfl) (rv_t hs rfl)) hs.defers ⟨⟨ad14, cp15, vs16, ad6, cp7, us8, G9, ad17, cp18⟩, rfl, ((hs.selS [0, 1, 2, 3, 4, 5, 6] rfl (by decide)).selB [] rfl (by decide)).mem⟩
end Go.Proofs.Ytikkhkjndbicgaa

/- Stacks: the laws of the operations, in plain Lean. -/
namespace Go.Proofs.Ytikkhkjndbicgaa
open Go.RowKit
def allB (n : Nat) (ks : BL) : Bool := ks.all fun x => decide (x.length ≤ n)
def smallS (ks js : BL) : Bool := decide (ks.length ≤ 110) && decide (js.length ≤ 110) && allB 600 ks && allB 600 js
def timesL : List UInt8 → BL → BL → BL × BL × Bool
  | [], ks, js => (ks, js, true)
  | o :: l, ks, js => if (doL o.toNat ks js).2.2 = 0 then timesL l (doL o.toNat ks js).1 (doL o.toNat ks js).2.1 else (ks, js, false)
theorem don_inv {ks js k j : BL} {e : Nat} (h : donL ks js e = (k, j, 0)) : e = 0 ∧ k = ks ∧ j = js ∧ chkL ks js = 0 := by
  unfold donL at h
  by_cases h0 : (if e = 0 then chkL ks js else e) = 0
  · rw [if_pos h0] at h
    obtain ⟨h1, h2, _⟩ := inj3 h
    by_cases he : e = 0
    · rw [if_pos he] at h0; exact ⟨he, h1.symm, h2.symm, h0⟩
    · rw [if_neg he] at h0; exact absurd h0 he
  · rw [if_neg h0] at h
    exact absurd (inj3 h).2.2 h0
theorem do_inv {op : Nat} {ks js k j : BL} (h : doL op ks js = (k, j, 0)) :
    (movL op ks js 0 = (true, k, j, 0) ∨ (∃ k1 e1, movL op ks js 0 = (false, k1, j, e1) ∧ (redL op k1 e1 = (true, k, 0) ∨ ∃ k2 e2, redL op k1 e1 = (false, k2, e2) ∧ recL op k2 e2 = (true, k, 0)))) ∧ chkL k j = 0 := by
  obtain ⟨q, k1, j1, e1, h1⟩ : ∃ a b c d, movL op ks js 0 = (a, b, c, d) := ⟨_, _, _, _, rfl⟩
  unfold doL at h
  simp only [h1] at h
  split at h
  · rename_i hq
    obtain ⟨rfl, rfl, rfl, hc⟩ := don_inv h
    exact ⟨.inl (by rw [h1, hq]), hc⟩
  · rename_i hq
    obtain ⟨q2, k2, e2, h2⟩ : ∃ a b c, redL op k1 e1 = (a, b, c) := ⟨_, _, _, rfl⟩
    simp only [h2] at h
    have hq' : q = false := by simpa using hq
    split at h
    · rename_i hq2
      obtain ⟨rfl, rfl, rfl, hc⟩ := don_inv h
      exact ⟨.inr ⟨k1, e1, by rw [h1, hq'], .inl (by rw [h2, hq2])⟩, hc⟩
    · rename_i hq2
      obtain ⟨q3, k3, e3, h3⟩ : ∃ a b c, recL op k2 e2 = (a, b, c) := ⟨_, _, _, rfl⟩
      simp only [h3] at h
      have hq2' : q2 = false := by simpa using hq2
      split at h
      · rename_i hq3
        obtain ⟨rfl, rfl, rfl, hc⟩ := don_inv h
        exact ⟨.inr ⟨k1, e1, by rw [h1, hq'], .inr ⟨k2, e2, by rw [h2, hq2'], by rw [h3, hq3]⟩⟩, hc⟩
      · exact absurd (inj3 h).2.2 (by decide)
def shufT (op : Nat) : Option (Nat × List Nat) :=
  if op = 109 then some (2, []) else if op = 110 then some (2, [0, 1, 0, 1]) else if op = 111 then some (3, [0, 1, 2, 0, 1, 2]) else if op = 112 then some (4, [0, 1, 2, 3, 0, 1])
  else if op = 113 then some (6, [2, 3, 4, 5, 0, 1]) else if op = 114 then some (4, [2, 3, 0, 1]) else if op = 117 then some (1, []) else if op = 118 then some (1, [0, 0])
  else if op = 119 then some (2, [1]) else if op = 120 then some (2, [0, 1, 0]) else if op = 123 then some (3, [1, 2, 0]) else if op = 124 then some (2, [1, 0]) else if op = 125 then some (2, [1, 0, 1]) else none
theorem pop_snoc {A : BL} {x : List UInt8} : popL (A ++ [x]) 0 = (x, A, 0) := by
  rw [pop_at (by simp)]
  simp [lastB]
def twRows : BL := [[97], [124, 124], [114, 114], [123, 123, 123], [113, 113, 113], [107, 108], [118, 117], [120, 117], [110, 109], [111, 109, 117], [112, 109], [130, 117], [116, 117], [125, 117, 124]]
end Go.Proofs.Ytikkhkjndbicgaa

/- Stacks that stay as they are: copies of entries, literals. -/
namespace Go.Proofs.Ytikkhkjndbicgaa
open Go.RowKit
section
variable {P : Program} {a : Act} {w : World} {n : Nat} {w0 : Bs} {fs : List Sl} {bs : List Bl} {vs us xs : List Value} {ks js ts : BL} {G : Nat → Prop}
theorem St.splitY (hs : St n w0 fs bs a w) (k : Nat) (h : w0.S[k]? = some (true, .bys (vs ++ us ++ xs) (ks ++ js ++ ts))) (hl : vs.length = ks.length) (hu : us.length = js.length) :
    St n (w0.withS (putS none (putS none w0.S [.bys vs ks]) [.bys us js])) fs bs a w := by
  have h1 := hs.all h rfl
  have f : ∀ vs' ks', vs'.length = ks'.length → (∀ p ∈ vs'.zip ks', p ∈ (vs ++ us ++ xs).zip (ks ++ js ++ ts)) → BysV w (Zall w0 bs) vs' ks' := fun vs' ks' hl' hp => bysv_iff.2 ⟨hl', fun p h => (bysv_iff.1 h1).2 p (hp p h)⟩
  have hs1 := hs.pushS none (L := [.bys vs ks]) rfl (okl1 (f vs ks hl fun p hp => mem_main hl hp))
  have h2 : (w0.withS (putS none w0.S [.bys vs ks])).S[k]? = some (true, .bys (vs ++ us ++ xs) (ks ++ js ++ ts)) := by
    simp only [putS]
    rw [List.getElem?_append_left (List.getElem?_eq_some_iff.1 h).1]; exact h
  have h3 := hs1.all h2 rfl
  exact hs1.pushS none rfl (okl1 (bysv_iff.2 ⟨hu, fun p hp => (bysv_iff.1 h3).2 p (mem_alt hl hu hp)⟩))
end
theorem le_one {n : Nat} (h0 : 0 < n) (h : n < 256) : le n = [UInt8.ofNat n] := by
  rw [le_pos n (by omega), Nat.mod_eq_of_lt h, Nat.div_eq_of_lt h, le_zero]
theorem enc_one {n : Nat} (h0 : 0 < n) (h : n < 128) : enc (n : Int) = [UInt8.ofNat n] := by
  unfold enc
  rw [show (n : Int).natAbs = n from Int.natAbs_natCast n, le_one h0 (by omega), decide_eq_false (by omega)]
  have h1 : (UInt8.ofNat n).toNat = n := by simp; omega
  have h2 := sgn_low (xs := [UInt8.ofNat n]) (N := 0) (c := n) false rfl h1 h
  rw [h2]; rfl
theorem dec_one {n : Nat} (h0 : 0 < n) (h : n < 128) : decN [UInt8.ofNat n] 4 = ((n : Int), 0) := by
  have h1 : (UInt8.ofNat n).toNat = n := by simp; omega
  have hv : val [UInt8.ofNat n] = (n : Int) := by
    rw [val_low [UInt8.ofNat n] 0 n rfl h1 h]
    simp [vl]
  unfold decN decOk
  rw [hv, enc_one h0 h]
  simp
theorem do_147 : doL 147 [[UInt8.ofNat 2], [UInt8.ofNat 3]] [] = ([[UInt8.ofNat 5]], [], 0) := by
  have h2 := dec_one (n := 2) (by decide) (by decide)
  have h3 := dec_one (n := 3) (by decide) (by decide)
  have h5 := enc_one (n := 5) (by decide) (by decide)
  have hm : movL 147 [[UInt8.ofNat 2], [UInt8.ofNat 3]] [] 0 = (false, [[UInt8.ofNat 2], [UInt8.ofNat 3]], [], 0) := by simp [movL]
  have hr : redL 147 [[UInt8.ofNat 2], [UInt8.ofNat 3]] 0 = (false, [[UInt8.ofNat 2], [UInt8.ofNat 3]], 0) := by simp [redL]
  have ho : opsL 2 [[UInt8.ofNat 2], [UInt8.ofNat 3]] 0 = ([2, 3], [], 0) := by
    have p1 : popL [[UInt8.ofNat 2], [UInt8.ofNat 3]] 0 = ([UInt8.ofNat 3], [[UInt8.ofNat 2]], 0) := pop_snoc (A := [[UInt8.ofNat 2]])
    have p2 : popL [[UInt8.ofNat 2]] 0 = ([UInt8.ofNat 2], [], 0) := pop_snoc (A := [])
    have r1 : readL [UInt8.ofNat 3] 4 0 = (3, 0) := h3
    have r2 : readL [UInt8.ofNat 2] 4 0 = (2, 0) := h2
    unfold opsL
    rw [if_pos (by decide), opsR_step (n := 1) p1 r1, opsR_step (n := 0) p2 r2]
    rfl
  have hc : recL 147 [[UInt8.ofNat 2], [UInt8.ofNat 3]] 0 = (true, [[UInt8.ofNat 5]], 0) := by
    unfold recL
    rw [if_neg (by decide), if_neg (by decide), if_neg (by decide), if_neg (by decide), ho]
    show (true, ([] : BL) ++ [enc ((5 : Nat) : Int)], 0) = _
    rw [h5]; rfl
  unfold doL
  simp only [hm, hr, hc, Bool.false_eq_true, if_false, if_true]
  decide
theorem do_255 : doL 255 [] [] = ([], [], 10) := by decide
theorem do_126 : doL 126 [[UInt8.ofNat 1], [UInt8.ofNat 2]] [] = ([[UInt8.ofNat 1, UInt8.ofNat 2]], [], 0) := by decide
theorem St.bysEq {a : Act} {w : World} {n : Nat} {w0 : Bs} {fs : List Sl} {bs : List Bl} (hs : St n w0 fs bs a w) (k : Nat) {vs vs' : List Value} {ls ls' : BL} (h : w0.S[k]? = some (true, .bys vs ls)) (hv : vs = vs') (hl : ls = ls') : St n (w0.withS (w0.S.set k (true, .bys vs' ls'))) fs bs a w := by
  subst hv; subst hl
  exact hs.conS k h (fun Z hz => hz) (fun g hg => hg)
end Go.Proofs.Ytikkhkjndbicgaa

/- Stacks: the laws' own functions. -/
namespace Go.Proofs.Ytikkhkjndbicgaa
open Go.RowKit
set_option maxRecDepth 10000
set_option maxHeartbeats 1000000
theorem alive_c  (w0 : World) (Z : Nat → Prop) : Calls Try.prog 9 #[] w0 fun e w' => Ret w0 Z (ρ := Unit) (fun r => .bool true) (fun r => []) e w' := by
  refine enterS (n := 66) (args := []) (S := []) (Z := Z) Try.func9 rfl rfl (Nat.le_of_ble_eq_true rfl) sok0 rfl fun ac hs => ?_
  refine wp_seq ?_
  refine wp_region_lit ?_
  refine lstep (wpO_plain rfl (op_assign hs none rfl rfl rfl rfl fun ac hs => ?_))
  refine wpList_nil ?_
  refine then_n ?_
  refine wp_seq ?_
  refine wp_region_lit ?_
  refine lstep (wpO_plain rfl (op_bsO hs none none (qs := [(0, .int .u8 2)]) (cs := [.int .u8 2]) (cs' := bcs [UInt8.ofNat 2]) rfl rfl rfl rfl Try.underlying34 inf_u8_5 (by decide) (by decide) (fill_one _ _ rfl ) rfl (bcs_cons (by decide) rfl) rfl rfl fun ad2 ac w hs => ?_))
  refine lstep (wpO_plain rfl (op_bsO hs none none (qs := [(0, .int .u8 3)]) (cs := [.int .u8 3]) (cs' := bcs [UInt8.ofNat 3]) rfl rfl rfl rfl Try.underlying34 inf_u8_5 (by decide) (by decide) (fill_one _ _ rfl ) rfl (bcs_cons (by decide) rfl) rfl rfl fun ad4 ac w hs => ?_))
  refine lstep (wpO_plain rfl (op_bsO hs none none (qs := [(0, .slice ad2 1 1), (1, .slice ad4 1 1)]) (cs := [.slice ad2 1 1, .slice ad4 1 1]) rfl rfl rfl rfl Try.underlying22 inf_slice_34 (by decide) (by decide) (fill_two _ _ _ rfl rfl) rfl rfl rfl rfl fun ad6 ac w hs => ?_))
  refine lstep (wpO_plain rfl (op_build hs none (qs := [(0, .slice ad6 2 2)]) (v := .agg #[.slice ad6 2 2, .slice none 0 0]) rfl rfl rfl rfl (fun _ => by kernel_rfl) rfl fun ac hs => ?_))
  replace hs := hs.freeze 2 rfl
  replace hs := hs.nilBys none rfl
  replace hs := hs.freeze 0 rfl
  replace hs := hs.snocBys (l := [UInt8.ofNat 2]) (ls' := [[UInt8.ofNat 2]]) 3 0 rfl rfl rfl
  replace hs := hs.freeze 1 rfl
  replace hs := hs.snocBys (l := [UInt8.ofNat 3]) (ls' := [[UInt8.ofNat 2], [UInt8.ofNat 3]]) 3 1 rfl rfl rfl
  replace hs := hs.bysEq 3 (vs' := [.slice ad2 1 1, .slice ad4 1 1]) (ls' := [[UInt8.ofNat 2], [UInt8.ofNat 3]]) rfl rfl rfl
  replace hs : St 66 ⟨w0, [], [(true, .cel (.slice ad2 1 1) 1 (bcs ([UInt8.ofNat 2]))), (true, .cel (.slice ad4 1 1) 1 (bcs ([UInt8.ofNat 3]))), (true, .cel (.slice ad6 2 2) 2 ([.slice ad2 1 1, .slice ad4 1 1])), (true, .bys ([.slice ad2 1 1, .slice ad4 1 1]) ([[UInt8.ofNat 2], [UInt8.ofNat 3]]))], Z, noX⟩ [(0, true, .bool false), (8, true, .slice ad2 1 1), (9, true, .slice ad4 1 1), (10, true, .slice ad6 2 2), (11, true, .agg #[.slice ad6 2 2, .slice none 0 0])] [] ac _ := hs.re ⟨rfl, rfl, rfl, rfl, rfl, trivial⟩
  replace hs := hs.nilCel none rfl
  replace hs := hs.nilBys none rfl
  replace hs : St 66 ⟨w0, [], [(true, .cel (.slice ad2 1 1) 1 (bcs ([UInt8.ofNat 2]))), (true, .cel (.slice ad4 1 1) 1 (bcs ([UInt8.ofNat 3]))), (true, .cel (.slice ad6 2 2) 2 ([.slice ad2 1 1, .slice ad4 1 1])), (true, .bys ([.slice ad2 1 1, .slice ad4 1 1]) ([[UInt8.ofNat 2], [UInt8.ofNat 3]])), (true, .cel (.slice none 0 0) 0 ([])), (true, .bys ([]) ([]))], Z, noX⟩ [(0, true, .bool false), (8, true, .slice ad2 1 1), (9, true, .slice ad4 1 1), (10, true, .slice ad6 2 2), (11, true, .agg #[.slice ad6 2 2, .slice none 0 0])] [] ac _ := hs.re ⟨rfl, rfl, rfl, rfl, rfl, trivial⟩
  refine lstep (wpO_plain rfl (op_callX (F := 11) (ρ := M2) hs none none [] [2, 3, 4, 5] (v := fun r => .tuple #[.agg #[.slice r.a (([[UInt8.ofNat 5]]).length) r.c, .slice r.b (([]).length) r.d], .int .i64 0]) (S1 := [(true, .cel (.slice ad6 2 2) 2 ([.slice ad2 1 1, .slice ad4 1 1])), (true, .bys ([.slice ad2 1 1, .slice ad4 1 1]) ([[UInt8.ofNat 2], [UInt8.ofNat 3]])), (true, .cel (.slice none 0 0) 0 ([])), (true, .bys ([]) ([]))]) (bs1 := []) (E := fun r => [(true, .cel (.slice ad6 2 2) 2 ([.slice ad2 1 1, .slice ad4 1 1])), (true, .bys ([.slice ad2 1 1, .slice ad4 1 1]) ([[UInt8.ofNat 2], [UInt8.ofNat 3]])), (true, .cel (.slice none 0 0) 0 ([])), (true, .bys ([]) ([])), (true, .own (.slice r.a (([[UInt8.ofNat 5]]).length) r.c) 34 1 (([[UInt8.ofNat 5]]).length) r.vs), (true, .own (.slice r.b (([]).length) r.d) 34 1 (([]).length) r.us), (true, .bysO r.G (r.vs ++ r.us ++ ([])) (([[UInt8.ofNat 5]]) ++ ([]) ++ ([])))]) (E1 := fun r => [(true, .cel (.slice ad6 2 2) 2 ([.slice ad2 1 1, .slice ad4 1 1])), (true, .bys ([.slice ad2 1 1, .slice ad4 1 1]) ([[UInt8.ofNat 2], [UInt8.ofNat 3]])), (true, .cel (.slice none 0 0) 0 ([])), (true, .bys ([]) ([]))]) (E2 := fun r => [.own (.slice r.a (([[UInt8.ofNat 5]]).length) r.c) 34 1 (([[UInt8.ofNat 5]]).length) r.vs, .own (.slice r.b (([]).length) r.d) 34 1 (([]).length) r.us, .bysO r.G (r.vs ++ r.us ++ ([])) (([[UInt8.ofNat 5]]) ++ ([]) ++ ([]))]) (bfA := fun r => []) (bf := fun r => []) (bf2 := fun r => []) rfl rfl rfl rfl rfl (Try.call11 _) rfl rfl (by decide) (by decide) (fun Z X hm => do_c ad6 2 ([.slice ad2 1 1, .slice ad4 1 1]) none 0 ([]) ([[UInt8.ofNat 2], [UInt8.ofNat 3]]) ([]) 147 ([[UInt8.ofNat 5]]) ([]) 0 (show OkN 1000 [[UInt8.ofNat 2], [UInt8.ofNat 3]] from ⟨by decide, by decide⟩) OkN.nil do_147 _ _ _ hm) (fun _ => rfl) (fun _ => rfl) (fun _ => rfl) (fun _ => rfl) (fun _ => rfl) rfl fun ⟨ad10, cp11, vs12, ad13, cp14, us15, G16⟩ ac w hs => ?_))
  refine lstep (wpO_plain rfl (op_move hs none rfl rfl rfl rfl fun ac hs => ?_))
  refine lstep (wpO_plain rfl (op_extract hs none rfl rfl rfl rfl rfl fun ac hs => ?_))
  refine lstep (wpO_plain rfl (op_extract hs none rfl rfl rfl rfl rfl fun ac hs => ?_))
  refine lstep (wpO_plain rfl (op_alloc hs none none (cs := [.slice none 0 0, .slice none 0 0]) rfl rfl Try.zeroValue24 (by kernel_rfl) rfl rfl fun g17 ac w hs => ?_))
  refine lstep (wpO_plain rfl (op_store hs 0 (vs := [.slice ad10 (([[UInt8.ofNat 5]]).length) cp11, .slice ad13 (([]).length) cp14]) rfl rfl rfl rfl rfl Try.sizeOf24 rfl rfl rfl rfl rfl fun w hs => ?_))
  refine lstep (wpO_plain rfl (op_assign hs none rfl rfl rfl rfl fun ac hs => ?_))
  refine wpList_nil ?_
  replace hs : St 66 ⟨w0, [], [(true, .cel (.slice ad2 1 1) 1 (bcs ([UInt8.ofNat 2]))), (true, .cel (.slice ad4 1 1) 1 (bcs ([UInt8.ofNat 3]))), (true, .cel (.slice ad6 2 2) 2 ([.slice ad2 1 1, .slice ad4 1 1])), (true, .bys ([.slice ad2 1 1, .slice ad4 1 1]) ([[UInt8.ofNat 2], [UInt8.ofNat 3]])), (true, .cel (.slice none 0 0) 0 ([])), (true, .bys ([]) ([])), (true, .own (.slice ad10 (([[UInt8.ofNat 5]]).length) cp11) 34 1 (([[UInt8.ofNat 5]]).length) vs12), (true, .own (.slice ad13 (([]).length) cp14) 34 1 (([]).length) us15), (true, .bysO G16 (vs12 ++ us15 ++ ([])) (([[UInt8.ofNat 5]]) ++ ([]) ++ ([])))], Z, noX⟩ [(0, true, .bool false), (8, true, .slice ad2 1 1), (9, true, .slice ad4 1 1), (10, true, .slice ad6 2 2), (11, true, .agg #[.slice ad6 2 2, .slice none 0 0]), (12, true, .tuple #[.agg #[.slice ad10 (([[UInt8.ofNat 5]]).length) cp11, .slice ad13 (([]).length) cp14], .int .i64 0]), (7, true, .tuple #[.agg #[.slice ad10 (([[UInt8.ofNat 5]]).length) cp11, .slice ad13 (([]).length) cp14], .int .i64 0]), (13, true, .agg #[.slice ad10 (([[UInt8.ofNat 5]]).length) cp11, .slice ad13 (([]).length) cp14]), (14, true, .int .i64 0), (1, true, .pointer (some ⟨g17, 0, none⟩)), (2, true, .int .i64 0)] [(true, g17, 24, [.slice ad10 (([[UInt8.ofNat 5]]).length) cp11, .slice ad13 (([]).length) cp14])] ac _ := hs.re ⟨rfl, rfl, rfl, rfl, rfl, rfl, rfl, rfl, rfl, rfl, rfl, trivial⟩
  have hl18 := hs.ownLen 6 rfl
  replace hs := hs.freeze 6 rfl
  have hl19 := hs.ownLen 7 rfl
  replace hs := hs.freeze 7 rfl
  replace hs := hs.freezeB 8 rfl
  replace hs := hs.splitY 8 rfl hl18 hl19
  replace hs : St 66 ⟨w0, [], [(true, .cel (.slice ad2 1 1) 1 (bcs ([UInt8.ofNat 2]))), (true, .cel (.slice ad4 1 1) 1 (bcs ([UInt8.ofNat 3]))), (true, .cel (.slice ad6 2 2) 2 ([.slice ad2 1 1, .slice ad4 1 1])), (true, .bys ([.slice ad2 1 1, .slice ad4 1 1]) ([[UInt8.ofNat 2], [UInt8.ofNat 3]])), (true, .cel (.slice none 0 0) 0 ([])), (true, .bys ([]) ([])), (true, .cel (.slice ad10 (([[UInt8.ofNat 5]]).length) cp11) (([[UInt8.ofNat 5]]).length) vs12), (true, .cel (.slice ad13 (([]).length) cp14) (([]).length) us15), (true, .bys (vs12 ++ us15 ++ ([])) (([[UInt8.ofNat 5]]) ++ ([]) ++ ([]))), (true, .bys vs12 ([[UInt8.ofNat 5]])), (true, .bys us15 ([]))], Z, noX⟩ [(0, true, .bool false), (8, true, .slice ad2 1 1), (9, true, .slice ad4 1 1), (10, true, .slice ad6 2 2), (11, true, .agg #[.slice ad6 2 2, .slice none 0 0]), (12, true, .tuple #[.agg #[.slice ad10 (([[UInt8.ofNat 5]]).length) cp11, .slice ad13 (([]).length) cp14], .int .i64 0]), (7, true, .tuple #[.agg #[.slice ad10 (([[UInt8.ofNat 5]]).length) cp11, .slice ad13 (([]).length) cp14], .int .i64 0]), (13, true, .agg #[.slice ad10 (([[UInt8.ofNat 5]]).length) cp11, .slice ad13 (([]).length) cp14]), (14, true, .int .i64 0), (1, true, .pointer (some ⟨g17, 0, none⟩)), (2, true, .int .i64 0)] [(true, g17, 24, [.slice ad10 (([[UInt8.ofNat 5]]).length) cp11, .slice ad13 (([]).length) cp14])] ac _ := hs.re ⟨rfl, rfl, rfl, rfl, rfl, rfl, rfl, rfl, rfl, rfl, rfl, trivial⟩
  obtain ⟨al20, cl21, hv22⟩ := bysv_at (l := [UInt8.ofNat 5]) (i := 0) (hs.all (k := 9) rfl rfl) rfl
  replace hs := hs.pick none 9 (i := 0) (l := [UInt8.ofNat 5]) rfl hv22 rfl rfl
  refine then_n ?_
  refine wp_seq ?_
  refine wp_region_lit ?_
  refine lstep (wpO_plain rfl (op_build hs none (qs := []) (v := .agg #[.slice none 0 0, .slice none 0 0]) rfl rfl rfl rfl (fun _ => by kernel_rfl) rfl fun ac hs => ?_))
  replace hs := hs.nilCel none rfl
  replace hs := hs.nilBys none rfl
  replace hs : St 66 ⟨w0, [], [(true, .cel (.slice ad2 1 1) 1 (bcs ([UInt8.ofNat 2]))), (true, .cel (.slice ad4 1 1) 1 (bcs ([UInt8.ofNat 3]))), (true, .cel (.slice ad6 2 2) 2 ([.slice ad2 1 1, .slice ad4 1 1])), (true, .bys ([.slice ad2 1 1, .slice ad4 1 1]) ([[UInt8.ofNat 2], [UInt8.ofNat 3]])), (true, .cel (.slice none 0 0) 0 ([])), (true, .bys ([]) ([])), (true, .cel (.slice ad10 (([[UInt8.ofNat 5]]).length) cp11) (([[UInt8.ofNat 5]]).length) vs12), (true, .cel (.slice ad13 (([]).length) cp14) (([]).length) us15), (true, .bys (vs12 ++ us15 ++ ([])) (([[UInt8.ofNat 5]]) ++ ([]) ++ ([]))), (true, .bys vs12 ([[UInt8.ofNat 5]])), (true, .bys us15 ([])), (true, .cel (.slice al20 (([UInt8.ofNat 5]).length) cl21) (([UInt8.ofNat 5]).length) (bcs ([UInt8.ofNat 5]))), (true, .cel (.slice none 0 0) 0 ([])), (true, .bys ([]) ([]))], Z, noX⟩ [(0, true, .bool false), (8, true, .slice ad2 1 1), (9, true, .slice ad4 1 1), (10, true, .slice ad6 2 2), (11, true, .agg #[.slice ad6 2 2, .slice none 0 0]), (12, true, .tuple #[.agg #[.slice ad10 (([[UInt8.ofNat 5]]).length) cp11, .slice ad13 (([]).length) cp14], .int .i64 0]), (7, true, .tuple #[.agg #[.slice ad10 (([[UInt8.ofNat 5]]).length) cp11, .slice ad13 (([]).length) cp14], .int .i64 0]), (13, true, .agg #[.slice ad10 (([[UInt8.ofNat 5]]).length) cp11, .slice ad13 (([]).length) cp14]), (14, true, .int .i64 0), (1, true, .pointer (some ⟨g17, 0, none⟩)), (2, true, .int .i64 0), (16, true, .agg #[.slice none 0 0, .slice none 0 0])] [(true, g17, 24, [.slice ad10 (([[UInt8.ofNat 5]]).length) cp11, .slice ad13 (([]).length) cp14])] ac _ := hs.re ⟨rfl, rfl, rfl, rfl, rfl, rfl, rfl, rfl, rfl, rfl, rfl, rfl, trivial⟩
  replace hs := hs.nilCel none rfl
  replace hs := hs.nilBys none rfl
  replace hs : St 66 ⟨w0, [], [(true, .cel (.slice ad2 1 1) 1 (bcs ([UInt8.ofNat 2]))), (true, .cel (.slice ad4 1 1) 1 (bcs ([UInt8.ofNat 3]))), (true, .cel (.slice ad6 2 2) 2 ([.slice ad2 1 1, .slice ad4 1 1])), (true, .bys ([.slice ad2 1 1, .slice ad4 1 1]) ([[UInt8.ofNat 2], [UInt8.ofNat 3]])), (true, .cel (.slice none 0 0) 0 ([])), (true, .bys ([]) ([])), (true, .cel (.slice ad10 (([[UInt8.ofNat 5]]).length) cp11) (([[UInt8.ofNat 5]]).length) vs12), (true, .cel (.slice ad13 (([]).length) cp14) (([]).length) us15), (true, .bys (vs12 ++ us15 ++ ([])) (([[UInt8.ofNat 5]]) ++ ([]) ++ ([]))), (true, .bys vs12 ([[UInt8.ofNat 5]])), (true, .bys us15 ([])), (true, .cel (.slice al20 (([UInt8.ofNat 5]).length) cl21) (([UInt8.ofNat 5]).length) (bcs ([UInt8.ofNat 5]))), (true, .cel (.slice none 0 0) 0 ([])), (true, .bys ([]) ([])), (true, .cel (.slice none 0 0) 0 ([])), (true, .bys ([]) ([]))], Z, noX⟩ [(0, true, .bool false), (8, true, .slice ad2 1 1), (9, true, .slice ad4 1 1), (10, true, .slice ad6 2 2), (11, true, .agg #[.slice ad6 2 2, .slice none 0 0]), (12, true, .tuple #[.agg #[.slice ad10 (([[UInt8.ofNat 5]]).length) cp11, .slice ad13 (([]).length) cp14], .int .i64 0]), (7, true, .tuple #[.agg #[.slice ad10 (([[UInt8.ofNat 5]]).length) cp11, .slice ad13 (([]).length) cp14], .int .i64 0]), (13, true, .agg #[.slice ad10 (([[UInt8.ofNat 5]]).length) cp11, .slice ad13 (([]).length) cp14]), (14, true, .int .i64 0), (1, true, .pointer (some ⟨g17, 0, none⟩)), (2, true, .int .i64 0), (16, true, .agg #[.slice none 0 0, .slice none 0 0])] [(true, g17, 24, [.slice ad10 (([[UInt8.ofNat 5]]).length) cp11, .slice ad13 (([]).length) cp14])] ac _ := hs.re ⟨rfl, rfl, rfl, rfl, rfl, rfl, rfl, rfl, rfl, rfl, rfl, rfl, trivial⟩
  refine lstep (wpO_plain rfl (op_callX (F := 11) (ρ := M2) hs none none [] [12, 13, 14, 15] (v := fun r => .tuple #[.agg #[.slice r.a (([]).length) r.c, .slice r.b (([]).length) r.d], .int .i64 10]) (S1 := [(true, .cel (.slice none 0 0) 0 ([])), (true, .bys ([]) ([])), (true, .cel (.slice none 0 0) 0 ([])), (true, .bys ([]) ([]))]) (bs1 := []) (E := fun r => [(true, .cel (.slice none 0 0) 0 ([])), (true, .bys ([]) ([])), (true, .cel (.slice none 0 0) 0 ([])), (true, .bys ([]) ([])), (true, .own (.slice r.a (([]).length) r.c) 34 1 (([]).length) r.vs), (true, .own (.slice r.b (([]).length) r.d) 34 1 (([]).length) r.us), (true, .bysO r.G (r.vs ++ r.us ++ ([])) (([]) ++ ([]) ++ ([])))]) (E1 := fun r => [(true, .cel (.slice none 0 0) 0 ([])), (true, .bys ([]) ([])), (true, .cel (.slice none 0 0) 0 ([])), (true, .bys ([]) ([]))]) (E2 := fun r => [.own (.slice r.a (([]).length) r.c) 34 1 (([]).length) r.vs, .own (.slice r.b (([]).length) r.d) 34 1 (([]).length) r.us, .bysO r.G (r.vs ++ r.us ++ ([])) (([]) ++ ([]) ++ ([]))]) (bfA := fun r => []) (bf := fun r => []) (bf2 := fun r => []) rfl rfl rfl rfl rfl (Try.call11 _) rfl rfl (by decide) (by decide) (fun Z X hm => do_c none 0 ([]) none 0 ([]) ([]) ([]) 255 ([]) ([]) 10 OkN.nil OkN.nil do_255 _ _ _ hm) (fun _ => rfl) (fun _ => rfl) (fun _ => rfl) (fun _ => rfl) (fun _ => rfl) rfl fun ⟨ad26, cp27, vs28, ad29, cp30, us31, G32⟩ ac w hs => ?_))
  refine lstep (wpO_plain rfl (op_move hs none rfl rfl rfl rfl fun ac hs => ?_))
  refine lstep (wpO_plain rfl (op_extract hs none rfl rfl rfl rfl rfl fun ac hs => ?_))
  refine lstep (wpO_plain rfl (op_extract hs none rfl rfl rfl rfl rfl fun ac hs => ?_))
  refine lstep (wpO_plain rfl (op_alloc hs none none (cs := [.slice none 0 0, .slice none 0 0]) rfl rfl Try.zeroValue24 (by kernel_rfl) rfl rfl fun g33 ac w hs => ?_))
  refine lstep (wpO_plain rfl (op_store hs 1 (vs := [.slice ad26 (([]).length) cp27, .slice ad29 (([]).length) cp30]) rfl rfl rfl rfl rfl Try.sizeOf24 rfl rfl rfl rfl rfl fun w hs => ?_))
  refine lstep (wpO_plain rfl (op_assign hs none rfl rfl rfl rfl fun ac hs => ?_))
  refine wpList_nil ?_
  replace hs : St 66 ⟨w0, [], [(true, .cel (.slice ad2 1 1) 1 (bcs ([UInt8.ofNat 2]))), (true, .cel (.slice ad4 1 1) 1 (bcs ([UInt8.ofNat 3]))), (true, .cel (.slice ad6 2 2) 2 ([.slice ad2 1 1, .slice ad4 1 1])), (true, .bys ([.slice ad2 1 1, .slice ad4 1 1]) ([[UInt8.ofNat 2], [UInt8.ofNat 3]])), (true, .cel (.slice none 0 0) 0 ([])), (true, .bys ([]) ([])), (true, .cel (.slice ad10 (([[UInt8.ofNat 5]]).length) cp11) (([[UInt8.ofNat 5]]).length) vs12), (true, .cel (.slice ad13 (([]).length) cp14) (([]).length) us15), (true, .bys (vs12 ++ us15 ++ ([])) (([[UInt8.ofNat 5]]) ++ ([]) ++ ([]))), (true, .bys vs12 ([[UInt8.ofNat 5]])), (true, .bys us15 ([])), (true, .cel (.slice al20 (([UInt8.ofNat 5]).length) cl21) (([UInt8.ofNat 5]).length) (bcs ([UInt8.ofNat 5]))), (true, .cel (.slice none 0 0) 0 ([])), (true, .bys ([]) ([])), (true, .cel (.slice none 0 0) 0 ([])), (true, .bys ([]) ([])), (true, .own (.slice ad26 (([]).length) cp27) 34 1 (([]).length) vs28), (true, .own (.slice ad29 (([]).length) cp30) 34 1 (([]).length) us31), (true, .bysO G32 (vs28 ++ us31 ++ ([])) (([]) ++ ([]) ++ ([])))], Z, noX⟩ [(0, true, .bool false), (1, true, .pointer (some ⟨g17, 0, none⟩)), (2, true, .int .i64 0), (16, true, .agg #[.slice none 0 0, .slice none 0 0]), (17, true, .tuple #[.agg #[.slice ad26 (([]).length) cp27, .slice ad29 (([]).length) cp30], .int .i64 10]), (15, true, .tuple #[.agg #[.slice ad26 (([]).length) cp27, .slice ad29 (([]).length) cp30], .int .i64 10]), (18, true, .agg #[.slice ad26 (([]).length) cp27, .slice ad29 (([]).length) cp30]), (19, true, .int .i64 10), (3, true, .pointer (some ⟨g33, 0, none⟩)), (4, true, .int .i64 10)] [(true, g17, 24, [.slice ad10 (([[UInt8.ofNat 5]]).length) cp11, .slice ad13 (([]).length) cp14]), (true, g33, 24, [.slice ad26 (([]).length) cp27, .slice ad29 (([]).length) cp30])] ac _ := hs.re ⟨rfl, rfl, rfl, rfl, rfl, rfl, rfl, rfl, rfl, rfl, trivial⟩
  have hl34 := hs.ownLen 16 rfl
  replace hs := hs.freeze 16 rfl
  have hl35 := hs.ownLen 17 rfl
  replace hs := hs.freeze 17 rfl
  replace hs := hs.freezeB 18 rfl
  replace hs := hs.splitY 18 rfl hl34 hl35
  replace hs : St 66 ⟨w0, [], [(true, .cel (.slice ad2 1 1) 1 (bcs ([UInt8.ofNat 2]))), (true, .cel (.slice ad4 1 1) 1 (bcs ([UInt8.ofNat 3]))), (true, .cel (.slice ad6 2 2) 2 ([.slice ad2 1 1, .slice ad4 1 1])), (true, .bys ([.slice ad2 1 1, .slice ad4 1 1]) ([[UInt8.ofNat 2], [UInt8.ofNat 3]])), (true, .cel (.slice none 0 0) 0 ([])), (true, .bys ([]) ([])), (true, .cel (.slice ad10 (([[UInt8.ofNat 5]]).length) cp11) (([[UInt8.ofNat 5]]).length) vs12), (true, .cel (.slice ad13 (([]).length) cp14) (([]).length) us15), (true, .bys (vs12 ++ us15 ++ ([])) (([[UInt8.ofNat 5]]) ++ ([]) ++ ([]))), (true, .bys vs12 ([[UInt8.ofNat 5]])), (true, .bys us15 ([])), (true, .cel (.slice al20 (([UInt8.ofNat 5]).length) cl21) (([UInt8.ofNat 5]).length) (bcs ([UInt8.ofNat 5]))), (true, .cel (.slice none 0 0) 0 ([])), (true, .bys ([]) ([])), (true, .cel (.slice none 0 0) 0 ([])), (true, .bys ([]) ([])), (true, .cel (.slice ad26 (([]).length) cp27) (([]).length) vs28), (true, .cel (.slice ad29 (([]).length) cp30) (([]).length) us31), (true, .bys (vs28 ++ us31 ++ ([])) (([]) ++ ([]) ++ ([]))), (true, .bys vs28 ([])), (true, .bys us31 ([]))], Z, noX⟩ [(0, true, .bool false), (1, true, .pointer (some ⟨g17, 0, none⟩)), (2, true, .int .i64 0), (16, true, .agg #[.slice none 0 0, .slice none 0 0]), (17, true, .tuple #[.agg #[.slice ad26 (([]).length) cp27, .slice ad29 (([]).length) cp30], .int .i64 10]), (15, true, .tuple #[.agg #[.slice ad26 (([]).length) cp27, .slice ad29 (([]).length) cp30], .int .i64 10]), (18, true, .agg #[.slice ad26 (([]).length) cp27, .slice ad29 (([]).length) cp30]), (19, true, .int .i64 10), (3, true, .pointer (some ⟨g33, 0, none⟩)), (4, true, .int .i64 10)] [(true, g17, 24, [.slice ad10 (([[UInt8.ofNat 5]]).length) cp11, .slice ad13 (([]).length) cp14]), (true, g33, 24, [.slice ad26 (([]).length) cp27, .slice ad29 (([]).length) cp30])] ac _ := hs.re ⟨rfl, rfl, rfl, rfl, rfl, rfl, rfl, rfl, rfl, rfl, trivial⟩
  refine then_n ?_
  refine wp_seq ?_
  refine wp_region_lit ?_
  refine lstep (wpO_plain rfl (op_bsO hs none none (qs := [(0, .int .u8 1)]) (cs := [.int .u8 1]) (cs' := bcs [UInt8.ofNat 1]) rfl rfl rfl rfl Try.underlying34 inf_u8_5 (by decide) (by decide) (fill_one _ _ rfl ) rfl (bcs_cons (by decide) rfl) rfl rfl fun ad37 ac w hs => ?_))
  refine lstep (wpO_plain rfl (op_bsO hs none none (qs := [(0, .int .u8 2)]) (cs := [.int .u8 2]) (cs' := bcs [UInt8.ofNat 2]) rfl rfl rfl rfl Try.underlying34 inf_u8_5 (by decide) (by decide) (fill_one _ _ rfl ) rfl (bcs_cons (by decide) rfl) rfl rfl fun ad39 ac w hs => ?_))
  refine lstep (wpO_plain rfl (op_bsO hs none none (qs := [(0, .slice ad37 1 1), (1, .slice ad39 1 1)]) (cs := [.slice ad37 1 1, .slice ad39 1 1]) rfl rfl rfl rfl Try.underlying22 inf_slice_34 (by decide) (by decide) (fill_two _ _ _ rfl rfl) rfl rfl rfl rfl fun ad41 ac w hs => ?_))
  refine lstep (wpO_plain rfl (op_build hs none (qs := [(0, .slice ad41 2 2)]) (v := .agg #[.slice ad41 2 2, .slice none 0 0]) rfl rfl rfl rfl (fun _ => by kernel_rfl) rfl fun ac hs => ?_))
  replace hs := hs.freeze 23 rfl
  replace hs := hs.nilBys none rfl
  replace hs := hs.freeze 21 rfl
  replace hs := hs.snocBys (l := [UInt8.ofNat 1]) (ls' := [[UInt8.ofNat 1]]) 24 21 rfl rfl rfl
  replace hs := hs.freeze 22 rfl
  replace hs := hs.snocBys (l := [UInt8.ofNat 2]) (ls' := [[UInt8.ofNat 1], [UInt8.ofNat 2]]) 24 22 rfl rfl rfl
  replace hs := hs.bysEq 24 (vs' := [.slice ad37 1 1, .slice ad39 1 1]) (ls' := [[UInt8.ofNat 1], [UInt8.ofNat 2]]) rfl rfl rfl
  replace hs : St 66 ⟨w0, [], [(true, .cel (.slice ad2 1 1) 1 (bcs ([UInt8.ofNat 2]))), (true, .cel (.slice ad4 1 1) 1 (bcs ([UInt8.ofNat 3]))), (true, .cel (.slice ad6 2 2) 2 ([.slice ad2 1 1, .slice ad4 1 1])), (true, .bys ([.slice ad2 1 1, .slice ad4 1 1]) ([[UInt8.ofNat 2], [UInt8.ofNat 3]])), (true, .cel (.slice none 0 0) 0 ([])), (true, .bys ([]) ([])), (true, .cel (.slice ad10 (([[UInt8.ofNat 5]]).length) cp11) (([[UInt8.ofNat 5]]).length) vs12), (true, .cel (.slice ad13 (([]).length) cp14) (([]).length) us15), (true, .bys (vs12 ++ us15 ++ ([])) (([[UInt8.ofNat 5]]) ++ ([]) ++ ([]))), (true, .bys vs12 ([[UInt8.ofNat 5]])), (true, .bys us15 ([])), (true, .cel (.slice al20 (([UInt8.ofNat 5]).length) cl21) (([UInt8.ofNat 5]).length) (bcs ([UInt8.ofNat 5]))), (true, .cel (.slice none 0 0) 0 ([])), (true, .bys ([]) ([])), (true, .cel (.slice none 0 0) 0 ([])), (true, .bys ([]) ([])), (true, .cel (.slice ad26 (([]).length) cp27) (([]).length) vs28), (true, .cel (.slice ad29 (([]).length) cp30) (([]).length) us31), (true, .bys (vs28 ++ us31 ++ ([])) (([]) ++ ([]) ++ ([]))), (true, .bys vs28 ([])), (true, .bys us31 ([])), (true, .cel (.slice ad37 1 1) 1 (bcs ([UInt8.ofNat 1]))), (true, .cel (.slice ad39 1 1) 1 (bcs ([UInt8.ofNat 2]))), (true, .cel (.slice ad41 2 2) 2 ([.slice ad37 1 1, .slice ad39 1 1])), (true, .bys ([.slice ad37 1 1, .slice ad39 1 1]) ([[UInt8.ofNat 1], [UInt8.ofNat 2]]))], Z, noX⟩ [(0, true, .bool false), (1, true, .pointer (some ⟨g17, 0, none⟩)), (2, true, .int .i64 0), (16, true, .agg #[.slice none 0 0, .slice none 0 0]), (17, true, .tuple #[.agg #[.slice ad26 (([]).length) cp27, .slice ad29 (([]).length) cp30], .int .i64 10]), (15, true, .tuple #[.agg #[.slice ad26 (([]).length) cp27, .slice ad29 (([]).length) cp30], .int .i64 10]), (18, true, .agg #[.slice ad26 (([]).length) cp27, .slice ad29 (([]).length) cp30]), (19, true, .int .i64 10), (3, true, .pointer (some ⟨g33, 0, none⟩)), (4, true, .int .i64 10), (21, true, .slice ad37 1 1), (22, true, .slice ad39 1 1), (23, true, .slice ad41 2 2), (24, true, .agg #[.slice ad41 2 2, .slice none 0 0])] [(true, g17, 24, [.slice ad10 (([[UInt8.ofNat 5]]).length) cp11, .slice ad13 (([]).length) cp14]), (true, g33, 24, [.slice ad26 (([]).length) cp27, .slice ad29 (([]).length) cp30])] ac _ := hs.re ⟨rfl, rfl, rfl, rfl, rfl, rfl, rfl, rfl, rfl, rfl, rfl, rfl, rfl, rfl, trivial⟩
  replace hs := hs.nilCel none rfl
  replace hs := hs.nilBys none rfl
  replace hs : St 66 ⟨w0, [], [(true, .cel (.slice ad2 1 1) 1 (bcs ([UInt8.ofNat 2]))), (true, .cel (.slice ad4 1 1) 1 (bcs ([UInt8.ofNat 3]))), (true, .cel (.slice ad6 2 2) 2 ([.slice ad2 1 1, .slice ad4 1 1])), (true, .bys ([.slice ad2 1 1, .slice ad4 1 1]) ([[UInt8.ofNat 2], [UInt8.ofNat 3]])), (true, .cel (.slice none 0 0) 0 ([])), (true, .bys ([]) ([])), (true, .cel (.slice ad10 (([[UInt8.ofNat 5]]).length) cp11) (([[UInt8.ofNat 5]]).length) vs12), (true, .cel (.slice ad13 (([]).length) cp14) (([]).length) us15), (true, .bys (vs12 ++ us15 ++ ([])) (([[UInt8.ofNat 5]]) ++ ([]) ++ ([]))), (true, .bys vs12 ([[UInt8.ofNat 5]])), (true, .bys us15 ([])), (true, .cel (.slice al20 (([UInt8.ofNat 5]).length) cl21) (([UInt8.ofNat 5]).length) (bcs ([UInt8.ofNat 5]))), (true, .cel (.slice none 0 0) 0 ([])), (true, .bys ([]) ([])), (true, .cel (.slice none 0 0) 0 ([])), (true, .bys ([]) ([])), (true, .cel (.slice ad26 (([]).length) cp27) (([]).length) vs28), (true, .cel (.slice ad29 (([]).length) cp30) (([]).length) us31), (true, .bys (vs28 ++ us31 ++ ([])) (([]) ++ ([]) ++ ([]))), (true, .bys vs28 ([])), (true, .bys us31 ([])), (true, .cel (.slice ad37 1 1) 1 (bcs ([UInt8.ofNat 1]))), (true, .cel (.slice ad39 1 1) 1 (bcs ([UInt8.ofNat 2]))), (true, .cel (.slice ad41 2 2) 2 ([.slice ad37 1 1, .slice ad39 1 1])), (true, .bys ([.slice ad37 1 1, .slice ad39 1 1]) ([[UInt8.ofNat 1], [UInt8.ofNat 2]])), (true, .cel (.slice none 0 0) 0 ([])), (true, .bys ([]) ([]))], Z, noX⟩ [(0, true, .bool false), (1, true, .pointer (some ⟨g17, 0, none⟩)), (2, true, .int .i64 0), (16, true, .agg #[.slice none 0 0, .slice none 0 0]), (17, true, .tuple #[.agg #[.slice ad26 (([]).length) cp27, .slice ad29 (([]).length) cp30], .int .i64 10]), (15, true, .tuple #[.agg #[.slice ad26 (([]).length) cp27, .slice ad29 (([]).length) cp30], .int .i64 10]), (18, true, .agg #[.slice ad26 (([]).length) cp27, .slice ad29 (([]).length) cp30]), (19, true, .int .i64 10), (3, true, .pointer (some ⟨g33, 0, none⟩)), (4, true, .int .i64 10), (21, true, .slice ad37 1 1), (22, true, .slice ad39 1 1), (23, true, .slice ad41 2 2), (24, true, .agg #[.slice ad41 2 2, .slice none 0 0])] [(true, g17, 24, [.slice ad10 (([[UInt8.ofNat 5]]).length) cp11, .slice ad13 (([]).length) cp14]), (true, g33, 24, [.slice ad26 (([]).length) cp27, .slice ad29 (([]).length) cp30])] ac _ := hs.re ⟨rfl, rfl, rfl, rfl, rfl, rfl, rfl, rfl, rfl, rfl, rfl, rfl, rfl, rfl, trivial⟩
  refine lstep (wpO_plain rfl (op_callX (F := 11) (ρ := M2) hs none none [] [23, 24, 25, 26] (v := fun r => .tuple #[.agg #[.slice r.a (([[UInt8.ofNat 1, UInt8.ofNat 2]]).length) r.c, .slice r.b (([]).length) r.d], .int .i64 0]) (S1 := [(true, .cel (.slice ad41 2 2) 2 ([.slice ad37 1 1, .slice ad39 1 1])), (true, .bys ([.slice ad37 1 1, .slice ad39 1 1]) ([[UInt8.ofNat 1], [UInt8.ofNat 2]])), (true, .cel (.slice none 0 0) 0 ([])), (true, .bys ([]) ([]))]) (bs1 := []) (E := fun r => [(true, .cel (.slice ad41 2 2) 2 ([.slice ad37 1 1, .slice ad39 1 1])), (true, .bys ([.slice ad37 1 1, .slice ad39 1 1]) ([[UInt8.ofNat 1], [UInt8.ofNat 2]])), (true, .cel (.slice none 0 0) 0 ([])), (true, .bys ([]) ([])), (true, .own (.slice r.a (([[UInt8.ofNat 1, UInt8.ofNat 2]]).length) r.c) 34 1 (([[UInt8.ofNat 1, UInt8.ofNat 2]]).length) r.vs), (true, .own (.slice r.b (([]).length) r.d) 34 1 (([]).length) r.us), (true, .bysO r.G (r.vs ++ r.us ++ ([])) (([[UInt8.ofNat 1, UInt8.ofNat 2]]) ++ ([]) ++ ([])))]) (E1 := fun r => [(true, .cel (.slice ad41 2 2) 2 ([.slice ad37 1 1, .slice ad39 1 1])), (true, .bys ([.slice ad37 1 1, .slice ad39 1 1]) ([[UInt8.ofNat 1], [UInt8.ofNat 2]])), (true, .cel (.slice none 0 0) 0 ([])), (true, .bys ([]) ([]))]) (E2 := fun r => [.own (.slice r.a (([[UInt8.ofNat 1, UInt8.ofNat 2]]).length) r.c) 34 1 (([[UInt8.ofNat 1, UInt8.ofNat 2]]).length) r.vs, .own (.slice r.b (([]).length) r.d) 34 1 (([]).length) r.us, .bysO r.G (r.vs ++ r.us ++ ([])) (([[UInt8.ofNat 1, UInt8.ofNat 2]]) ++ ([]) ++ ([]))]) (bfA := fun r => []) (bf := fun r => []) (bf2 := fun r => []) rfl rfl rfl rfl rfl (Try.call11 _) rfl rfl (by decide) (by decide) (fun Z X hm => do_c ad41 2 ([.slice ad37 1 1, .slice ad39 1 1]) none 0 ([]) ([[UInt8.ofNat 1], [UInt8.ofNat 2]]) ([]) 126 ([[UInt8.ofNat 1, UInt8.ofNat 2]]) ([]) 0 (show OkN 1000 [[UInt8.ofNat 1], [UInt8.ofNat 2]] from ⟨by decide, by decide⟩) OkN.nil do_126 _ _ _ hm) (fun _ => rfl) (fun _ => rfl) (fun _ => rfl) (fun _ => rfl) (fun _ => rfl) rfl fun ⟨ad45, cp46, vs47, ad48, cp49, us50, G51⟩ ac w hs => ?_))
  refine lstep (wpO_plain rfl (op_move hs none rfl rfl rfl rfl fun ac hs => ?_))
  refine lstep (wpO_plain rfl (op_extract hs none rfl rfl rfl rfl rfl fun ac hs => ?_))
  refine lstep (wpO_plain rfl (op_extract hs none rfl rfl rfl rfl rfl fun ac hs => ?_))
  refine lstep (wpO_plain rfl (op_alloc hs none none (cs := [.slice none 0 0, .slice none 0 0]) rfl rfl Try.zeroValue24 (by kernel_rfl) rfl rfl fun g52 ac w hs => ?_))
  refine lstep (wpO_plain rfl (op_store hs 2 (vs := [.slice ad45 (([[UInt8.ofNat 1, UInt8.ofNat 2]]).length) cp46, .slice ad48 (([]).length) cp49]) rfl rfl rfl rfl rfl Try.sizeOf24 rfl rfl rfl rfl rfl fun w hs => ?_))
  refine lstep (wpO_plain rfl (op_assign hs none rfl rfl rfl rfl fun ac hs => ?_))
  refine wpList_nil ?_
  replace hs : St 66 ⟨w0, [], [(true, .cel (.slice ad2 1 1) 1 (bcs ([UInt8.ofNat 2]))), (true, .cel (.slice ad4 1 1) 1 (bcs ([UInt8.ofNat 3]))), (true, .cel (.slice ad6 2 2) 2 ([.slice ad2 1 1, .slice ad4 1 1])), (true, .bys ([.slice ad2 1 1, .slice ad4 1 1]) ([[UInt8.ofNat 2], [UInt8.ofNat 3]])), (true, .cel (.slice none 0 0) 0 ([])), (true, .bys ([]) ([])), (true, .cel (.slice ad10 (([[UInt8.ofNat 5]]).length) cp11) (([[UInt8.ofNat 5]]).length) vs12), (true, .cel (.slice ad13 (([]).length) cp14) (([]).length) us15), (true, .bys (vs12 ++ us15 ++ ([])) (([[UInt8.ofNat 5]]) ++ ([]) ++ ([]))), (true, .bys vs12 ([[UInt8.ofNat 5]])), (true, .bys us15 ([])), (true, .cel (.slice al20 (([UInt8.ofNat 5]).length) cl21) (([UInt8.ofNat 5]).length) (bcs ([UInt8.ofNat 5]))), (true, .cel (.slice none 0 0) 0 ([])), (true, .bys ([]) ([])), (true, .cel (.slice none 0 0) 0 ([])), (true, .bys ([]) ([])), (true, .cel (.slice ad26 (([]).length) cp27) (([]).length) vs28), (true, .cel (.slice ad29 (([]).length) cp30) (([]).length) us31), (true, .bys (vs28 ++ us31 ++ ([])) (([]) ++ ([]) ++ ([]))), (true, .bys vs28 ([])), (true, .bys us31 ([])), (true, .cel (.slice ad37 1 1) 1 (bcs ([UInt8.ofNat 1]))), (true, .cel (.slice ad39 1 1) 1 (bcs ([UInt8.ofNat 2]))), (true, .cel (.slice ad41 2 2) 2 ([.slice ad37 1 1, .slice ad39 1 1])), (true, .bys ([.slice ad37 1 1, .slice ad39 1 1]) ([[UInt8.ofNat 1], [UInt8.ofNat 2]])), (true, .cel (.slice none 0 0) 0 ([])), (true, .bys ([]) ([])), (true, .own (.slice ad45 (([[UInt8.ofNat 1, UInt8.ofNat 2]]).length) cp46) 34 1 (([[UInt8.ofNat 1, UInt8.ofNat 2]]).length) vs47), (true, .own (.slice ad48 (([]).length) cp49) 34 1 (([]).length) us50), (true, .bysO G51 (vs47 ++ us50 ++ ([])) (([[UInt8.ofNat 1, UInt8.ofNat 2]]) ++ ([]) ++ ([])))], Z, noX⟩ [(0, true, .bool false), (1, true, .pointer (some ⟨g17, 0, none⟩)), (2, true, .int .i64 0), (4, true, .int .i64 10), (21, true, .slice ad37 1 1), (22, true, .slice ad39 1 1), (23, true, .slice ad41 2 2), (24, true, .agg #[.slice ad41 2 2, .slice none 0 0]), (25, true, .tuple #[.agg #[.slice ad45 (([[UInt8.ofNat 1, UInt8.ofNat 2]]).length) cp46, .slice ad48 (([]).length) cp49], .int .i64 0]), (20, true, .tuple #[.agg #[.slice ad45 (([[UInt8.ofNat 1, UInt8.ofNat 2]]).length) cp46, .slice ad48 (([]).length) cp49], .int .i64 0]), (26, true, .agg #[.slice ad45 (([[UInt8.ofNat 1, UInt8.ofNat 2]]).length) cp46, .slice ad48 (([]).length) cp49]), (27, true, .int .i64 0), (5, true, .pointer (some ⟨g52, 0, none⟩)), (6, true, .int .i64 0)] [(true, g17, 24, [.slice ad10 (([[UInt8.ofNat 5]]).length) cp11, .slice ad13 (([]).length) cp14]), (true, g33, 24, [.slice ad26 (([]).length) cp27, .slice ad29 (([]).length) cp30]), (true, g52, 24, [.slice ad45 (([[UInt8.ofNat 1, UInt8.ofNat 2]]).length) cp46, .slice ad48 (([]).length) cp49])] ac _ := hs.re ⟨rfl, rfl, rfl, rfl, rfl, rfl, rfl, rfl, rfl, rfl, rfl, rfl, rfl, rfl, trivial⟩
  have hl53 := hs.ownLen 27 rfl
  replace hs := hs.freeze 27 rfl
  have hl54 := hs.ownLen 28 rfl
  replace hs := hs.freeze 28 rfl
  replace hs := hs.freezeB 29 rfl
  replace hs := hs.splitY 29 rfl hl53 hl54
  replace hs : St 66 ⟨w0, [], [(true, .cel (.slice ad2 1 1) 1 (bcs ([UInt8.ofNat 2]))), (true, .cel (.slice ad4 1 1) 1 (bcs ([UInt8.ofNat 3]))), (true, .cel (.slice ad6 2 2) 2 ([.slice ad2 1 1, .slice ad4 1 1])), (true, .bys ([.slice ad2 1 1, .slice ad4 1 1]) ([[UInt8.ofNat 2], [UInt8.ofNat 3]])), (true, .cel (.slice none 0 0) 0 ([])), (true, .bys ([]) ([])), (true, .cel (.slice ad10 (([[UInt8.ofNat 5]]).length) cp11) (([[UInt8.ofNat 5]]).length) vs12), (true, .cel (.slice ad13 (([]).length) cp14) (([]).length) us15), (true, .bys (vs12 ++ us15 ++ ([])) (([[UInt8.ofNat 5]]) ++ ([]) ++ ([]))), (true, .bys vs12 ([[UInt8.ofNat 5]])), (true, .bys us15 ([])), (true, .cel (.slice al20 (([UInt8.ofNat 5]).length) cl21) (([UInt8.ofNat 5]).length) (bcs ([UInt8.ofNat 5]))), (true, .cel (.slice none 0 0) 0 ([])), (true, .bys ([]) ([])), (true, .cel (.slice none 0 0) 0 ([])), (true, .bys ([]) ([])), (true, .cel (.slice ad26 (([]).length) cp27) (([]).length) vs28), (true, .cel (.slice ad29 (([]).length) cp30) (([]).length) us31), (true, .bys (vs28 ++ us31 ++ ([])) (([]) ++ ([]) ++ ([]))), (true, .bys vs28 ([])), (true, .bys us31 ([])), (true, .cel (.slice ad37 1 1) 1 (bcs ([UInt8.ofNat 1]))), (true, .cel (.slice ad39 1 1) 1 (bcs ([UInt8.ofNat 2]))), (true, .cel (.slice ad41 2 2) 2 ([.slice ad37 1 1, .slice ad39 1 1])), (true, .bys ([.slice ad37 1 1, .slice ad39 1 1]) ([[UInt8.ofNat 1], [UInt8.ofNat 2]])), (true, .cel (.slice none 0 0) 0 ([])), (true, .bys ([]) ([])), (true, .cel (.slice ad45 (([[UInt8.ofNat 1, UInt8.ofNat 2]]).length) cp46) (([[UInt8.ofNat 1, UInt8.ofNat 2]]).length) vs47), (true, .cel (.slice ad48 (([]).length) cp49) (([]).length) us50), (true, .bys (vs47 ++ us50 ++ ([])) (([[UInt8.ofNat 1, UInt8.ofNat 2]]) ++ ([]) ++ ([]))), (true, .bys vs47 ([[UInt8.ofNat 1, UInt8.ofNat 2]])), (true, .bys us50 ([]))], Z, noX⟩ [(0, true, .bool false), (1, true, .pointer (some ⟨g17, 0, none⟩)), (2, true, .int .i64 0), (4, true, .int .i64 10), (21, true, .slice ad37 1 1), (22, true, .slice ad39 1 1), (23, true, .slice ad41 2 2), (24, true, .agg #[.slice ad41 2 2, .slice none 0 0]), (25, true, .tuple #[.agg #[.slice ad45 (([[UInt8.ofNat 1, UInt8.ofNat 2]]).length) cp46, .slice ad48 (([]).length) cp49], .int .i64 0]), (20, true, .tuple #[.agg #[.slice ad45 (([[UInt8.ofNat 1, UInt8.ofNat 2]]).length) cp46, .slice ad48 (([]).length) cp49], .int .i64 0]), (26, true, .agg #[.slice ad45 (([[UInt8.ofNat 1, UInt8.ofNat 2]]).length) cp46, .slice ad48 (([]).length) cp49]), (27, true, .int .i64 0), (5, true, .pointer (some ⟨g52, 0, none⟩)), (6, true, .int .i64 0)] [(true, g17, 24, [.slice ad10 (([[UInt8.ofNat 5]]).length) cp11, .slice ad13 (([]).length) cp14]), (true, g33, 24, [.slice ad26 (([]).length) cp27, .slice ad29 (([]).length) cp30]), (true, g52, 24, [.slice ad45 (([[UInt8.ofNat 1, UInt8.ofNat 2]]).length) cp46, .slice ad48 (([]).length) cp49])] ac _ := hs.re ⟨rfl, rfl, rfl, rfl, rfl, rfl, rfl, rfl, rfl, rfl, rfl, rfl, rfl, rfl, trivial⟩
  obtain ⟨al55, cl56, hv57⟩ := bysv_at (l := [UInt8.ofNat 1, UInt8.ofNat 2]) (i := 0) (hs.all (k := 30) rfl rfl) rfl
  replace hs := hs.pick none 30 (i := 0) (l := [UInt8.ofNat 1, UInt8.ofNat 2]) rfl hv57 rfl rfl
  refine then_n ?_
  refine wp_seq ?_
  refine wp_region_lit ?_
  refine lstep (wpO_plain rfl (op_move hs none rfl rfl rfl rfl fun ac hs => ?_))
  refine lstep (wpO_plain rfl (op_bin hs none (v := .bool true) rfl rfl rfl rfl (fun _ => rfl) (fun _ => by kernel_rfl) rfl fun ac hs => ?_))
  refine lstep (wpO_plain rfl (op_move hs none rfl rfl rfl rfl fun ac hs => ?_))
  refine lstep (wpO_in hs rfl rfl rfl (op_fieldA hs none rfl rfl rfl Try.underlying24 rfl Try.sizeOf22 (by decide) rfl fun ac hs => ?_))
  refine lstep (wpO_in hs rfl rfl rfl (op_load hs none 0 (v := .slice ad10 (([[UInt8.ofNat 5]]).length) cp11) rfl rfl rfl rfl Try.isAgg22 Try.sizeOf22 rfl rfl fun ac hs => ?_))
  refine lstep (wpO_in hs rfl rfl rfl (op_blt hs none (v := .int .i64 ((([[UInt8.ofNat 5]]).length : Nat) : Int)) rfl rfl rfl (blt_len Try.underlying22) rfl fun ac hs => ?_))
  refine lstep (wpO_in hs rfl rfl rfl (op_bin hs none (v := .bool true) rfl rfl rfl rfl (fun _ => rfl) (fun w => dT rfl (bin_eqlN (x := ([[UInt8.ofNat 5]]).length) (y := 1) w)) rfl fun ac hs => ?_))
  refine lstep (wpO_plain rfl (op_pickT hs none rfl rfl rfl rfl rfl fun ac hs => ?_))
  refine lstep (wpO_plain rfl (op_move hs none rfl rfl rfl rfl fun ac hs => ?_))
  refine lstep (wpO_in hs rfl rfl rfl (op_fieldA hs none rfl rfl rfl Try.underlying24 rfl Try.sizeOf22 (by decide) rfl fun ac hs => ?_))
  refine lstep (wpO_in hs rfl rfl rfl (op_load hs none 0 (v := .slice ad10 (([[UInt8.ofNat 5]]).length) cp11) rfl rfl rfl rfl Try.isAgg22 Try.sizeOf22 rfl rfl fun ac hs => ?_))
  refine lstep (wpO_in hs rfl rfl rfl (op_idxC hs none 6 (j := 0) rfl rfl rfl rfl rfl Try.underlying22 Try.sizeOf34 (show 0 < ([[UInt8.ofNat 5]]).length by first | omega | ((try simp only [List.length_drop, List.length_take, List.length_append, List.length_cons, List.length_nil]); omega)) (off := 0) (by omega) rfl fun ac hs => ?_))
  refine lstep (wpO_in hs rfl rfl rfl (op_loadC hs none 6 (u := .slice al20 (([UInt8.ofNat 5]).length) cl21) rfl rfl rfl rfl Try.isAgg34 Try.sizeOf34 (by decide) hv22 rfl fun ac hs => ?_))
  refine lstep (wpO_in hs rfl rfl rfl (op_convBS hs none 11 rfl rfl rfl rfl rfl Try.underlying34 Try.underlying5 Try.underlying9 rfl fun ac hs => ?_))
  refine lstep (wpO_in hs rfl rfl rfl (op_bin hs none (v := .bool true) rfl rfl rfl rfl (fun _ => rfl) (fun _ => by kernel_rfl) rfl fun ac hs => ?_))
  refine lstep (wpO_plain rfl (op_pickT hs none rfl rfl rfl rfl rfl fun ac hs => ?_))
  refine lstep (wpO_plain rfl (op_move hs none rfl rfl rfl rfl fun ac hs => ?_))
  refine lstep (wpO_in hs rfl rfl rfl (op_move hs none rfl rfl rfl rfl fun ac hs => ?_))
  refine lstep (wpO_in hs rfl rfl rfl (op_bin hs none (v := .bool true) rfl rfl rfl rfl (fun _ => rfl) (fun _ => by kernel_rfl) rfl fun ac hs => ?_))
  refine lstep (wpO_plain rfl (op_pickT hs none rfl rfl rfl rfl rfl fun ac hs => ?_))
  refine lstep (wpO_plain rfl (op_move hs none rfl rfl rfl rfl fun ac hs => ?_))
  refine lstep (wpO_in hs rfl rfl rfl (op_move hs none rfl rfl rfl rfl fun ac hs => ?_))
  refine lstep (wpO_in hs rfl rfl rfl (op_bin hs none (v := .bool true) rfl rfl rfl rfl (fun _ => rfl) (fun _ => by kernel_rfl) rfl fun ac hs => ?_))
  refine lstep (wpO_plain rfl (op_pickT hs none rfl rfl rfl rfl rfl fun ac hs => ?_))
  refine lstep (wpO_plain rfl (op_move hs none rfl rfl rfl rfl fun ac hs => ?_))
  refine lstep (wpO_in hs rfl rfl rfl (op_fieldA hs none rfl rfl rfl Try.underlying24 rfl Try.sizeOf22 (by decide) rfl fun ac hs => ?_))
  refine lstep (wpO_in hs rfl rfl rfl (op_load hs none 2 (v := .slice ad45 (([[UInt8.ofNat 1, UInt8.ofNat 2]]).length) cp46) rfl rfl rfl rfl Try.isAgg22 Try.sizeOf22 rfl rfl fun ac hs => ?_))
  refine lstep (wpO_in hs rfl rfl rfl (op_blt hs none (v := .int .i64 ((([[UInt8.ofNat 1, UInt8.ofNat 2]]).length : Nat) : Int)) rfl rfl rfl (blt_len Try.underlying22) rfl fun ac hs => ?_))
  refine lstep (wpO_in hs rfl rfl rfl (op_bin hs none (v := .bool true) rfl rfl rfl rfl (fun _ => rfl) (fun w => dT rfl (bin_eqlN (x := ([[UInt8.ofNat 1, UInt8.ofNat 2]]).length) (y := 1) w)) rfl fun ac hs => ?_))
  refine lstep (wpO_plain rfl (op_pickT hs none rfl rfl rfl rfl rfl fun ac hs => ?_))
  refine lstep (wpO_plain rfl (op_move hs none rfl rfl rfl rfl fun ac hs => ?_))
  refine lstep (wpO_in hs rfl rfl rfl (op_fieldA hs none rfl rfl rfl Try.underlying24 rfl Try.sizeOf22 (by decide) rfl fun ac hs => ?_))
  refine lstep (wpO_in hs rfl rfl rfl (op_load hs none 2 (v := .slice ad45 (([[UInt8.ofNat 1, UInt8.ofNat 2]]).length) cp46) rfl rfl rfl rfl Try.isAgg22 Try.sizeOf22 rfl rfl fun ac hs => ?_))
  refine lstep (wpO_in hs rfl rfl rfl (op_idxC hs none 27 (j := 0) rfl rfl rfl rfl rfl Try.underlying22 Try.sizeOf34 (show 0 < ([[UInt8.ofNat 1, UInt8.ofNat 2]]).length by first | omega | ((try simp only [List.length_drop, List.length_take, List.length_append, List.length_cons, List.length_nil]); omega)) (off := 0) (by omega) rfl fun ac hs => ?_))
  refine lstep (wpO_in hs rfl rfl rfl (op_loadC hs none 27 (u := .slice al55 (([UInt8.ofNat 1, UInt8.ofNat 2]).length) cl56) rfl rfl rfl rfl Try.isAgg34 Try.sizeOf34 (by decide) hv57 rfl fun ac hs => ?_))
  refine lstep (wpO_in hs rfl rfl rfl (op_convBS hs none 32 rfl rfl rfl rfl rfl Try.underlying34 Try.underlying5 Try.underlying9 rfl fun ac hs => ?_))
  refine lstep (wpO_in hs rfl rfl rfl (op_bin hs none (v := .bool true) rfl rfl rfl rfl (fun _ => rfl) (fun _ => by kernel_rfl) rfl fun ac hs => ?_))
  refine lstep (wpO_plain rfl (op_pickT hs none rfl rfl rfl rfl rfl fun ac hs => ?_))
  refine lstep (wpO_plain rfl (op_assign hs none rfl rfl rfl rfl fun ac hs => ?_))
  refine wpList_nil ?_
  refine then_n ?_
  refine wp_ret ?_
  exact bodyPost_ret (res1 rfl (rv_t hs rfl)) hs.defers ⟨(), rfl, hs.bel rfl, okl0⟩
end Go.Proofs.Ytikkhkjndbicgaa

/- Stacks: what lies below the six upper things stays, in plain Lean. -/
namespace Go.Proofs.Ytikkhkjndbicgaa
open Go.RowKit
def Kp (n : Nat) (ks k : BL) : Prop := ks.length - n ≤ k.length ∧ k.take (ks.length - n) = ks.take (ks.length - n)
theorem Kp.of {n m : Nat} {ks : BL} (hm : ks.length - n ≤ m) (hl : m ≤ ks.length) (s : BL) : Kp n ks (ks.take m ++ s) := by
  have h1 : (ks.take m).length = m := by rw [List.length_take]; omega
  refine ⟨by rw [List.length_append, h1]; omega, ?_⟩
  rw [List.take_append_of_le_length (by omega), List.take_take, Nat.min_eq_left hm]
theorem Kp.same {n : Nat} {ks : BL} (s : BL) : Kp n ks (ks ++ s) := by
  have := Kp.of (n := n) (ks := ks) (m := ks.length) (by omega) (Nat.le_refl _) s
  rwa [List.take_length] at this
theorem Kp.self {n : Nat} {ks : BL} : Kp n ks ks := by
  have := Kp.same (n := n) (ks := ks) []
  rwa [List.append_nil] at this
theorem Kp.mono {n m : Nat} {ks k : BL} (h : Kp n ks k) (hnm : n ≤ m) : Kp m ks k := by
  refine ⟨by have := h.1; omega, ?_⟩
  have := congrArg (List.take (ks.length - m)) h.2
  rwa [List.take_take, List.take_take, Nat.min_eq_left (by omega)] at this
theorem Kp.trans {n m : Nat} {ks k l : BL} (h : Kp n ks k) (h2 : Kp m k l) : Kp (n + m) ks l := by
  obtain ⟨a1, a2⟩ := h
  obtain ⟨b1, b2⟩ := h2
  refine ⟨by omega, ?_⟩
  have c1 := congrArg (List.take (ks.length - (n + m))) a2
  have c2 := congrArg (List.take (ks.length - (n + m))) b2
  rw [List.take_take, List.take_take, Nat.min_eq_left (by omega)] at c1 c2
  exact c2.trans c1
theorem kp_snoc {n : Nat} {ks k : BL} (h : Kp n ks k) (s : BL) : Kp n ks (k ++ s) := by
  obtain ⟨a1, a2⟩ := h
  refine ⟨by rw [List.length_append]; omega, ?_⟩
  rw [List.take_append_of_le_length a1, a2]
theorem kp_pop {ks : BL} {e : Nat} : Kp 1 ks (popL ks e).2.1 := by
  unfold popL
  split
  · have := Kp.of (n := 1) (ks := ks) (m := ks.length - 1) (by omega) (by omega) []
    rwa [List.append_nil] at this
  · exact Kp.self
theorem kp_shuf {n : Nat} {ps : List Nat} {ks : BL} {e : Nat} : Kp n ks (shufL n ps ks e).1 := by
  unfold shufL
  split
  · exact Kp.of (by omega) (by omega) _
  · exact Kp.self
theorem kp_opsR : ∀ (n : Nat) {ks : BL} {e : Nat}, Kp n ks (opsR n ks e).2.1
  | 0, _, _ => Kp.self
  | n + 1, ks, e => by
    rw [opsR]
    have := Kp.trans (kp_pop (ks := ks) (e := e)) (kp_opsR n (ks := (popL ks e).2.1) (e := (readL (popL ks e).1 4 (popL ks e).2.2).2))
    rwa [Nat.add_comm] at this
theorem kp_ops {n : Nat} {ks : BL} {e : Nat} : Kp n ks (opsL n ks e).2.1 := by
  unfold opsL
  split
  · exact kp_opsR n
  · exact Kp.self
theorem kp_deep {ks : BL} {e : Nat} : Kp 1 ks (deepL false ks e).1 := by
  unfold deepL
  split
  · unfold deepR
    split
    · exact kp_pop
    · exact kp_snoc kp_pop _
  · exact kp_pop
theorem kp_rec {op : Nat} {ks : BL} {e : Nat} : Kp 3 ks (recL op ks e).2.1 := by
  unfold recL
  split
  · exact kp_snoc kp_ops _
  · split
    · exact (kp_snoc kp_ops _).mono (by decide)
    · split
      · exact Kp.self
      · split
        · exact kp_ops.mono (by decide)
        · exact (kp_snoc kp_ops _).mono (by decide)
theorem kp_alik {ks : BL} {e : Nat} : Kp 2 ks (alikL ks e).2.1 := by
  unfold alikL
  split
  · have := Kp.of (n := 2) (ks := ks) (m := ks.length - 2) (by omega) (by omega) []
    rwa [List.append_nil] at this
  · exact Kp.self
theorem kp_join {ks : BL} {e : Nat} : Kp 2 ks (joinL ks e).1 := by
  unfold joinL
  split
  · exact Kp.of (by omega) (by omega) _
  · exact Kp.self
theorem kp_hash {f : List UInt8 → List UInt8} {ks : BL} {e : Nat} : Kp 1 ks (hashL f ks e).1 := by
  unfold hashL
  split
  · exact Kp.of (by omega) (by omega) _
  · exact Kp.self
theorem kp_ifd {ks : BL} {e : Nat} : Kp 0 ks (ifdL ks e).1 := by
  unfold ifdL
  split
  · exact Kp.same _
  · exact Kp.self
theorem kp_siz {ks : BL} {e : Nat} : Kp 0 ks (sizL ks e).1 := by
  unfold sizL
  split
  · exact Kp.same _
  · exact Kp.self
theorem kp_back {ks js : BL} {e : Nat} : Kp 0 ks (backL ks js e).1 := by
  unfold backL
  split
  · exact Kp.self
  · exact Kp.same _
theorem kp_mov {op : Nat} {ks js : BL} {e : Nat} : Kp 6 ks (movL op ks js e).2.1 := by
  unfold movL
  by_cases c : op = 97
  · rw [if_pos c]; exact Kp.self
  rw [if_neg c]; clear c
  by_cases c : op = 107
  · rw [if_pos c]; exact kp_pop.mono (by decide)
  rw [if_neg c]; clear c
  by_cases c : op = 108
  · rw [if_pos c]; exact kp_back.mono (by decide)
  rw [if_neg c]; clear c
  by_cases c : op = 109
  · rw [if_pos c]; exact kp_shuf.mono (by decide)
  rw [if_neg c]; clear c
  by_cases c : op = 110
  · rw [if_pos c]; exact kp_shuf.mono (by decide)
  rw [if_neg c]; clear c
  by_cases c : op = 111
  · rw [if_pos c]; exact kp_shuf.mono (by decide)
  rw [if_neg c]; clear c
  by_cases c : op = 112
  · rw [if_pos c]; exact kp_shuf.mono (by decide)
  rw [if_neg c]; clear c
  by_cases c : op = 113
  · rw [if_pos c]; exact kp_shuf.mono (by decide)
  rw [if_neg c]; clear c
  by_cases c : op = 114
  · rw [if_pos c]; exact kp_shuf.mono (by decide)
  rw [if_neg c]; clear c
  by_cases c : op = 117
  · rw [if_pos c]; exact kp_shuf.mono (by decide)
  rw [if_neg c]; clear c
  by_cases c : op = 118
  · rw [if_pos c]; exact kp_shuf.mono (by decide)
  rw [if_neg c]; clear c
  by_cases c : op = 119
  · rw [if_pos c]; exact kp_shuf.mono (by decide)
  rw [if_neg c]; clear c
  by_cases c : op = 120
  · rw [if_pos c]; exact kp_shuf.mono (by decide)
  rw [if_neg c]; clear c
  by_cases c : op = 123
  · rw [if_pos c]; exact kp_shuf.mono (by decide)
  rw [if_neg c]; clear c
  by_cases c : op = 124
  · rw [if_pos c]; exact kp_shuf.mono (by decide)
  rw [if_neg c]; clear c
  by_cases c : op = 125
  · rw [if_pos c]; exact kp_shuf.mono (by decide)
  rw [if_neg c]; clear c
  exact Kp.self
theorem kp_red {op : Nat} {ks : BL} {e : Nat} (h : op ≠ 122) : Kp 6 ks (redL op ks e).2.1 := by
  unfold redL
  by_cases c : op = 121
  · rw [if_pos c]; exact kp_deep.mono (by decide)
  rw [if_neg c]; clear c
  by_cases c : op = 122
  · rw [if_pos c]; exact absurd c h
  rw [if_neg c]; clear c
  by_cases c : op = 105
  · rw [if_pos c]; exact kp_pop.mono (by decide)
  rw [if_neg c]; clear c
  by_cases c : op = 115
  · rw [if_pos c]; exact kp_ifd.mono (by decide)
  rw [if_neg c]; clear c
  by_cases c : op = 116
  · rw [if_pos c]; exact Kp.same _
  rw [if_neg c]; clear c
  by_cases c : op = 126
  · rw [if_pos c]; exact kp_join.mono (by decide)
  rw [if_neg c]; clear c
  by_cases c : op = 130
  · rw [if_pos c]; exact kp_siz.mono (by decide)
  rw [if_neg c]; clear c
  by_cases c : op = 135
  · rw [if_pos c]; exact (kp_snoc kp_alik _).mono (by decide)
  rw [if_neg c]; clear c
  by_cases c : op = 136
  · rw [if_pos c]; exact kp_alik.mono (by decide)
  rw [if_neg c]; clear c
  by_cases c : op = 168
  · rw [if_pos c]; exact kp_hash.mono (by decide)
  rw [if_neg c]; clear c
  by_cases c : op = 170
  · rw [if_pos c]; exact kp_hash.mono (by decide)
  rw [if_neg c]; clear c
  exact Kp.self
theorem mov_no {op : Nat} {ks js k1 j1 : BL} {e e1 : Nat} (h : movL op ks js e = (false, k1, j1, e1)) : k1 = ks ∧ j1 = js ∧ e1 = e := by
  unfold movL at h
  by_cases c : op = 97
  · rw [if_pos c] at h; exact absurd (congrArg Prod.fst h) (fun h => by cases h)
  rw [if_neg c] at h; clear c
  by_cases c : op = 107
  · rw [if_pos c] at h; exact absurd (congrArg Prod.fst h) (fun h => by cases h)
  rw [if_neg c] at h; clear c
  by_cases c : op = 108
  · rw [if_pos c] at h; exact absurd (congrArg Prod.fst h) (fun h => by cases h)
  rw [if_neg c] at h; clear c
  by_cases c : op = 109
  · rw [if_pos c] at h; exact absurd (congrArg Prod.fst h) (fun h => by cases h)
  rw [if_neg c] at h; clear c
  by_cases c : op = 110
  · rw [if_pos c] at h; exact absurd (congrArg Prod.fst h) (fun h => by cases h)
  rw [if_neg c] at h; clear c
  by_cases c : op = 111
  · rw [if_pos c] at h; exact absurd (congrArg Prod.fst h) (fun h => by cases h)
  rw [if_neg c] at h; clear c
  by_cases c : op = 112
  · rw [if_pos c] at h; exact absurd (congrArg Prod.fst h) (fun h => by cases h)
  rw [if_neg c] at h; clear c
  by_cases c : op = 113
  · rw [if_pos c] at h; exact absurd (congrArg Prod.fst h) (fun h => by cases h)
  rw [if_neg c] at h; clear c
  by_cases c : op = 114
  · rw [if_pos c] at h; exact absurd (congrArg Prod.fst h) (fun h => by cases h)
  rw [if_neg c] at h; clear c
  by_cases c : op = 117
  · rw [if_pos c] at h; exact absurd (congrArg Prod.fst h) (fun h => by cases h)
  rw [if_neg c] at h; clear c
  by_cases c : op = 118
  · rw [if_pos c] at h; exact absurd (congrArg Prod.fst h) (fun h => by cases h)
  rw [if_neg c] at h; clear c
  by_cases c : op = 119
  · rw [if_pos c] at h; exact absurd (congrArg Prod.fst h) (fun h => by cases h)
  rw [if_neg c] at h; clear c
  by_cases c : op = 120
  · rw [if_pos c] at h; exact absurd (congrArg Prod.fst h) (fun h => by cases h)
  rw [if_neg c] at h; clear c
  by_cases c : op = 123
  · rw [if_pos c] at h; exact absurd (congrArg Prod.fst h) (fun h => by cases h)
  rw [if_neg c] at h; clear c
  by_cases c : op = 124
  · rw [if_pos c] at h; exact absurd (congrArg Prod.fst h) (fun h => by cases h)
  rw [if_neg c] at h; clear c
  by_cases c : op = 125
  · rw [if_pos c] at h; exact absurd (congrArg Prod.fst h) (fun h => by cases h)
  rw [if_neg c] at h; clear c
  obtain ⟨_, h1, h2, h3⟩ := inj4 h
  exact ⟨h1.symm, h2.symm, h3.symm⟩
theorem red_no {op : Nat} {ks k1 : BL} {e e1 : Nat} (h : redL op ks e = (false, k1, e1)) : k1 = ks ∧ e1 = e := by
  unfold redL at h
  by_cases c : op = 121
  · rw [if_pos c] at h; exact absurd (congrArg Prod.fst h) (fun h => by cases h)
  rw [if_neg c] at h; clear c
  by_cases c : op = 122
  · rw [if_pos c] at h; exact absurd (congrArg Prod.fst h) (fun h => by cases h)
  rw [if_neg c] at h; clear c
  by_cases c : op = 105
  · rw [if_pos c] at h; exact absurd (congrArg Prod.fst h) (fun h => by cases h)
  rw [if_neg c] at h; clear c
  by_cases c : op = 115
  · rw [if_pos c] at h; exact absurd (congrArg Prod.fst h) (fun h => by cases h)
  rw [if_neg c] at h; clear c
  by_cases c : op = 116
  · rw [if_pos c] at h; exact absurd (congrArg Prod.fst h) (fun h => by cases h)
  rw [if_neg c] at h; clear c
  by_cases c : op = 126
  · rw [if_pos c] at h; exact absurd (congrArg Prod.fst h) (fun h => by cases h)
  rw [if_neg c] at h; clear c
  by_cases c : op = 130
  · rw [if_pos c] at h; exact absurd (congrArg Prod.fst h) (fun h => by cases h)
  rw [if_neg c] at h; clear c
  by_cases c : op = 135
  · rw [if_pos c] at h; exact absurd (congrArg Prod.fst h) (fun h => by cases h)
  rw [if_neg c] at h; clear c
  by_cases c : op = 136
  · rw [if_pos c] at h; exact absurd (congrArg Prod.fst h) (fun h => by cases h)
  rw [if_neg c] at h; clear c
  by_cases c : op = 168
  · rw [if_pos c] at h; exact absurd (congrArg Prod.fst h) (fun h => by cases h)
  rw [if_neg c] at h; clear c
  by_cases c : op = 170
  · rw [if_pos c] at h; exact absurd (congrArg Prod.fst h) (fun h => by cases h)
  rw [if_neg c] at h; clear c
  obtain ⟨_, h1, h2⟩ := inj3 h
  exact ⟨h1.symm, h2.symm⟩
theorem below {op : Nat} {ks js k j : BL} (h : doL op ks js = (k, j, 0)) (ho : op ≠ 122) : ks.length - 6 ≤ k.length ∧ k.take (ks.length - 6) = ks.take (ks.length - 6) := by
  obtain ⟨h1, _⟩ := do_inv h
  rcases h1 with h1 | ⟨k1, e1, h1, h2⟩
  · have := kp_mov (op := op) (ks := ks) (js := js) (e := 0)
    rw [h1] at this
    exact this
  · obtain ⟨rfl, _, rfl⟩ := mov_no h1
    rcases h2 with h2 | ⟨k2, e2, h2, h3⟩
    · have := kp_red (ks := k1) (e := 0) ho
      rw [h2] at this
      exact this
    · obtain ⟨rfl, rfl⟩ := red_no h2
      have := (kp_rec (op := op) (ks := k2) (e := 0)).mono (m := 6) (by decide)
      rw [h3] at this
      exact this
end Go.Proofs.Ytikkhkjndbicgaa

/- Stacks: the laws of what lies below, and of numbers. -/
namespace Go.Proofs.Ytikkhkjndbicgaa
open Go.RowKit
set_option maxRecDepth 10000
set_option maxHeartbeats 1000000
theorem BysV.take {w : World} {Z : Nat → Prop} {vs : List Value} {ks : BL} (h : BysV w Z vs ks) (n : Nat) : BysV w Z (vs.take n) (ks.take n) :=
  bysv_iff.2 ⟨by simp [h.1], fun p hp => (bysv_iff.1 h).2 p (zip_take n p hp)⟩
end Go.Proofs.Ytikkhkjndbicgaa

/- What is written is read as it was (the plain part of XNumPlain). -/
namespace Go.Proofs.Ytikkhkjndbicgaa
theorem vl_le (m : Nat) : vl (le m) = m := by
  induction m using Nat.strongRecOn with
  | _ m ih =>
    by_cases h : m = 0
    · subst h; rw [le_zero]; rfl
    · rw [le_pos m h, vl, ih (m / 256) (by omega)]
      simp
      omega
theorem le_last (m : Nat) (h : m ≠ 0) : ∃ N, (le m).length = N + 1 ∧ ((le m).getD N 0).toNat ≠ 0 := by
  induction m using Nat.strongRecOn with
  | _ m ih =>
    rw [le_pos m h]
    by_cases h2 : m / 256 = 0
    · refine ⟨0, by rw [h2, le_zero]; rfl, ?_⟩
      simp
      omega
    · obtain ⟨N, h3, h4⟩ := ih (m / 256) (by omega) h2
      exact ⟨N + 1, by simp [h3], by simpa using h4⟩
theorem le_nil (m : Nat) (h : le m = []) : m = 0 := by
  refine Classical.byContradiction fun hne => ?_
  rw [le_pos m hne] at h
  cases h
theorem getD_set_last (xs : List UInt8) (N : Nat) (c : UInt8) (h : xs.length = N + 1) : (xs.set N c).getD N 0 = c := by
  simp [List.getD, h]
theorem getD_snoc (xs : List UInt8) (c : UInt8) (n : Nat) (h : xs.length = n) : (xs ++ [c]).getD n 0 = c := by
  subst h; simp [List.getD]
theorem val_enc (n : Int) : val (enc n) = n := by
  by_cases h0 : n = 0
  · subst h0; rw [enc_0]; rfl
  · obtain ⟨N, hN, hc0⟩ := le_last n.natAbs (by omega)
    have hv := vl_le n.natAbs
    have ht := vl_top (le n.natAbs) N _ hN rfl
    rw [hv] at ht
    obtain ⟨c, hc⟩ : ∃ c, ((le n.natAbs).getD N 0).toNat = c := ⟨_, rfl⟩
    have hc256 : c < 256 := by rw [← hc]; exact (UInt8.toNat_lt _)
    rw [hc] at ht
    unfold enc
    by_cases h128 : 128 ≤ c
    · rw [sgn_high _ hN hc h128]
      have htk : (le n.natAbs ++ [if decide (n < 0) = true then (128 : UInt8) else 0]).take (N + 1) = le n.natAbs := by
        rw [List.take_append_of_le_length (by omega), List.take_of_length_le (by omega)]
      by_cases hn : n < 0
      · rw [val_high _ (N + 1) 128 (by simp; exact hN) (by rw [getD_snoc _ _ _ hN, decide_eq_true hn]; rfl) (by decide), htk, hv]
        omega
      · rw [val_low _ (N + 1) 0 (by simp; exact hN) (by rw [getD_snoc _ _ _ hN, decide_eq_false hn]; rfl) (by decide), htk, hv]
        omega
    · rw [sgn_low _ hN hc (by omega)]
      by_cases hn : n < 0
      · rw [decide_eq_true hn, if_pos rfl]
        have e1 : (((le n.natAbs).set N ((le n.natAbs).getD N 0 + 128)).getD N 0).toNat = c + 128 := by
          rw [getD_set_last _ _ _ hN, UInt8.toNat_add, hc]
          show (c + 128) % 256 = _
          omega
        have e2 : ((le n.natAbs).set N ((le n.natAbs).getD N 0 + 128)).take N = (le n.natAbs).take N := by
          rw [List.take_set_of_le (Nat.le_refl _)]
        rw [val_high _ N (c + 128) (by simp; exact hN) e1 (by omega), e2]
        have : (c + 128) % 128 = c := by omega
        rw [this]
        omega
      · rw [decide_eq_false hn, if_neg (by decide), val_low _ N c hN hc (by omega)]
        omega
end Go.Proofs.Ytikkhkjndbicgaa

/- Stacks: numbers, in plain Lean. -/
namespace Go.Proofs.Ytikkhkjndbicgaa
open Go.RowKit
theorem enc_len4 {n : Int} (h1 : -2147483648 < n) (h2 : n < 2147483648) : (enc n).length ≤ 4 := by
  by_cases h0 : n.natAbs = 0
  · unfold enc; rw [h0, le_zero]; simp [sgn]
  obtain ⟨N, hN, hne⟩ := le_last n.natAbs h0
  have hl := le_length 4 n.natAbs (by omega)
  obtain ⟨c, hc⟩ : ∃ c, ((le n.natAbs).getD N 0).toNat = c := ⟨_, rfl⟩
  unfold enc
  by_cases h : 128 ≤ c
  · rw [sgn_high _ hN hc h]
    have hv := vl_top (le n.natAbs) N c hN hc
    rw [vl_le] at hv
    have h3 : N ≠ 3 := fun e => by
      subst e
      have : c * 256 ^ 3 ≤ n.natAbs := by omega
      have : 128 * 256 ^ 3 ≤ c * 256 ^ 3 := Nat.mul_le_mul_right _ h
      omega
    simp; omega
  · rw [sgn_low _ hN hc (by omega)]
    split
    · simp; omega
    · omega
theorem dec_enc {n : Int} {most : Int} (h : ((enc n).length : Int) ≤ most) (h8 : (enc n).length ≤ 8) : decN (enc n) most = (n, 0) := by
  unfold decN decOk
  rw [val_enc]
  simp [h, h8]
theorem dec_enc4 {n : Int} (h1 : -2147483648 < n) (h2 : n < 2147483648) : decN (enc n) 4 = (n, 0) := dec_enc (by have := enc_len4 h1 h2; omega) (by have := enc_len4 h1 h2; omega)
theorem enc_len8 {n : Int} (h1 : -4294967296 < n) (h2 : n < 4294967296) : (enc n).length ≤ 5 := by
  have h := le_length 4 n.natAbs (by omega)
  unfold enc sgn
  split
  · simp
  · split
    · simp; omega
    · split
      · simp; omega
      · omega
theorem dec_enc8 {n : Int} (h1 : -4294967296 < n) (h2 : n < 4294967296) : decN (enc n) 8 = (n, 0) := dec_enc (by have := enc_len8 h1 h2; omega) (by have := enc_len8 h1 h2; omega)
def numOp (op : Nat) : Bool := decide (op = 147) || decide (op = 148) || decide (op = 156) || decide (op = 158) || decide (op = 159) || decide (op = 160) || decide (op = 161) || decide (op = 162) || decide (op = 163) || decide (op = 164)
theorem num_parts {op : Nat} (h : numOp op = true) (ks js : BL) (a b : Int) : movL op ks js 0 = (false, ks, js, 0) ∧ redL op ks 0 = (false, ks, 0) ∧ (unL op 0).2 = false ∧ (binL op 0 0).2 = true ∧ (binL op a b).2 = true ∧ op ≠ 165 ∧ op ≠ 157 := by
  unfold numOp at h
  simp only [Bool.or_eq_true, decide_eq_true_eq] at h
  rcases h with ((((((((rfl | rfl) | rfl) | rfl) | rfl) | rfl) | rfl) | rfl) | rfl) | rfl <;> simp [movL, redL, unL, binL, cmpL]
theorem num_do {op : Nat} {a b z : Int} (h : numOp op = true) (ha : -2147483648 < a ∧ a < 2147483648) (hb : -2147483648 < b ∧ b < 2147483648) (hz : (binL op a b).1 = z) : doL op [enc a, enc b] [] = ([enc z], [], 0) := by
  obtain ⟨h1, h2, h3, h4, _, h5, h6⟩ := num_parts h [enc a, enc b] [] a b
  have ho : opsL 2 [enc a, enc b] 0 = ([a, b], [], 0) := by
    have p1 : popL [enc a, enc b] 0 = (enc b, [enc a], 0) := pop_snoc (A := [enc a])
    have p2 : popL [enc a] 0 = (enc a, [], 0) := pop_snoc (A := [])
    have r1 : readL (enc b) 4 0 = (b, 0) := dec_enc4 hb.1 hb.2
    have r2 : readL (enc a) 4 0 = (a, 0) := dec_enc4 ha.1 ha.2
    unfold opsL
    rw [if_pos (by show needE 2 2 0 = 0; decide), opsR_step (n := 1) p1 r1, opsR_step (n := 0) p2 r2]
    rfl
  have hc : recL op [enc a, enc b] 0 = (true, [enc z], 0) := by
    unfold recL
    rw [if_neg h5, if_neg (by rw [h3]; decide), if_neg (by rw [h4]; decide), if_neg h6, ho]
    show (true, ([] : BL) ++ [enc (binL op a b).1], 0) = _
    rw [hz]; rfl
  have hzb := binL_bd (op := op) (q := (binL op a b).2) ha hb (show binL op a b = (z, _) by rw [← hz])
  have hl := enc_len8 hzb.1 hzb.2
  unfold doL
  simp only [h1, h2, hc, Bool.false_eq_true, if_false, if_true]
  unfold donL
  have hch : chkL [enc z] [] = 0 := by
    unfold chkL longB
    have h520 : ¬ 520 < (enc z).length := by omega
    simp [h520]
  rw [if_pos rfl, hch, if_pos rfl]
theorem num_pop {z : Int} (h1 : -4294967296 < z) (h2 : z < 4294967296) : popN 8 [enc z] [] = (z, [], [], 0) := by
  have p : popL [enc z] 0 = (enc z, [], 0) := pop_snoc (A := [])
  have r : readL (enc z) 8 0 = (z, 0) := dec_enc8 h1 h2
  unfold popN
  simp only [p, r, if_true]
theorem le_step {bs : List UInt8} {m M : Nat} (h0 : 0 < m) (h : bs ++ le m = le M) : (bs ++ [UInt8.ofNat (m % 256)]) ++ le (m / 256) = le M := by
  rw [← h, le_pos m (by omega), List.append_assoc]; rfl
theorem le_bound {bs : List UInt8} {m M : Nat} (h : bs ++ le m = le M) (hM : M ≤ 2147483648) : m ≤ 2147483648 := by
  have h1 := congrArg vl h
  rw [vl_le] at h1
  have h2 : ∀ (xs ys : List UInt8), vl ys ≤ vl (xs ++ ys) := by
    intro xs ys
    induction xs with
    | nil => exact Nat.le_refl _
    | cons x xs ih => show vl ys ≤ x.toNat + 256 * vl (xs ++ ys); omega
  have h3 := h2 bs (le m)
  rw [vl_le] at h3
  omega
theorem set_last0 {bs : List UInt8} {N : Nat} (hN : bs.length = N + 1) : (bs ++ [UInt8.ofNat 0]).set ((bs ++ [UInt8.ofNat 0]).length - 1) (UInt8.ofNat (byt (bs ++ [UInt8.ofNat 0]) ((bs ++ [UInt8.ofNat 0]).length - 1) + 128)) = bs ++ [if true = true then 128 else 0] := by
  have h1 : (bs ++ [UInt8.ofNat 0]).length - 1 = bs.length := by simp
  have h2 : byt (bs ++ [UInt8.ofNat 0]) bs.length = 0 := by simp [byt]
  rw [h1, h2, List.set_append_right _ _ (Nat.le_refl _)]
  simp
theorem set_low {bs : List UInt8} {N : Nat} (hN : bs.length - 1 = N) (h : byt bs (bs.length - 1) < 128) : bs.set (bs.length - 1) (UInt8.ofNat (byt bs (bs.length - 1) + 128)) = if true = true then bs.set N (bs.getD N 0 + 128) else bs := by
  rw [hN] at h ⊢
  rw [if_pos rfl]
  congr 1
theorem byt_last0 {bs : List UInt8} : byt (bs ++ [UInt8.ofNat 0]) ((bs ++ [UInt8.ofNat 0]).length - 1) = 0 := by
  have h1 : (bs ++ [UInt8.ofNat 0]).length - 1 = bs.length := by simp
  rw [h1]; simp [byt]
theorem bcs_set {xs : List UInt8} {j n : Nat} (b : UInt8) (hb : b.toNat = n) : (bcs xs).set j (.int .u8 (n : Int)) = bcs (xs.set j b) := by
  subst hb
  simp [bcs, List.map_set]
theorem conv_I {P : Program} {S D : TypeId} {x : Int} (hs : P.underlying S = some (.int .i32)) (hd : P.underlying D = some (.int .i64)) (h1 : -2147483648 ≤ x) (h2 : x < 2147483648) (w : World) : (convert S D (.int .i32 x)).run P w = .ok (.int .i64 x) w := by
  have e : IntKind.i64.wrap x = x := by simp [IntKind.wrap, IntKind.bits, IntKind.signed]; omega
  simp [convert, run_underlying hs, run_underlying hd, Sem.run_bind, Result.andThen, Conv.intToInt, e]
theorem ok_pair {a b : List UInt8} (ha : a.length ≤ 4) (hb : b.length ≤ 4) : OkN 1000 [a, b] := by
  refine ⟨by simp, fun x hx => ?_⟩
  simp at hx
  rcases hx with rfl | rfl <;> omega
theorem ok_one {a : List UInt8} (ha : a.length ≤ 5) : OkN 1000 [a] := by
  refine ⟨by simp, fun x hx => ?_⟩
  simp at hx
  subst hx; omega
theorem two_bd {op : Nat} {a b z : Int} (ha : -2147483648 < a ∧ a < 2147483648) (hb : -2147483648 < b ∧ b < 2147483648) (hz : (binL op a b).1 = z) : -4294967296 < z ∧ z < 4294967296 :=
  binL_bd (op := op) (q := (binL op a b).2) ha hb (show binL op a b = (z, _) by rw [← hz])
theorem two_len {op : Nat} {a b z : Int} (ha : -2147483648 < a ∧ a < 2147483648) (hb : -2147483648 < b ∧ b < 2147483648) (hz : (binL op a b).1 = z) : (enc z).length ≤ 5 :=
  enc_len8 (two_bd ha hb hz).1 (two_bd ha hb hz).2
theorem b_147 {a b z : Int} (h : (binL 147 a b).1 = z) : z = a + b := by rw [← h]; simp [binL]
theorem b_148 {a b z : Int} (h : (binL 148 a b).1 = z) : z = a - b := by rw [← h]; simp [binL]
theorem b_163 {a b z : Int} (h : (binL 163 a b).1 = z) : (a ≤ b ∧ z = a) ∨ (b < a ∧ z = b) := by rw [← h]; simp [binL]; omega
theorem b_164 {a b z : Int} (h : (binL 164 a b).1 = z) : (a ≤ b ∧ z = b) ∨ (b < a ∧ z = a) := by rw [← h]; simp [binL]; omega
theorem truI_cases (p : Prop) [Decidable p] : (p ∧ truI (decide p) = 1) ∨ (¬ p ∧ truI (decide p) = 0) := by
  by_cases h : p
  · exact .inl ⟨h, by simp [truI, h]⟩
  · exact .inr ⟨h, by simp [truI, h]⟩
theorem b_159 {a b z : Int} (h : (binL 159 a b).1 = z) : (a < b ∧ z = 1) ∨ (¬ a < b ∧ z = 0) := by rw [← h]; exact truI_cases (a < b)
theorem b_160 {a b z : Int} (h : (binL 160 a b).1 = z) : (b < a ∧ z = 1) ∨ (¬ b < a ∧ z = 0) := by rw [← h]; exact truI_cases (b < a)
theorem b_156 {a b z : Int} (h : (binL 156 a b).1 = z) : (a = b ∧ z = 1) ∨ (¬ a = b ∧ z = 0) := by rw [← h]; exact truI_cases (a = b)
theorem b_161 {a b z : Int} (h : (binL 161 a b).1 = z) : (a ≤ b ∧ z = 1) ∨ (¬ a ≤ b ∧ z = 0) := by rw [← h]; exact truI_cases (a ≤ b)
theorem b_162 {a b z : Int} (h : (binL 162 a b).1 = z) : (b ≤ a ∧ z = 1) ∨ (¬ b ≤ a ∧ z = 0) := by rw [← h]; exact truI_cases (b ≤ a)
theorem b_158 {a b z : Int} (h : (binL 158 a b).1 = z) : (a ≠ b ∧ z = 1) ∨ (¬ a ≠ b ∧ z = 0) := by rw [← h]; exact truI_cases (a ≠ b)
end Go.Proofs.Ytikkhkjndbicgaa

/- Stacks: the law of numbers. -/
namespace Go.Proofs.Ytikkhkjndbicgaa
open Go.RowKit
set_option maxRecDepth 10000
set_option maxHeartbeats 1000000
theorem lenc_c (n : Int) (hn1 : -2147483648 < n) (hn2 : n < 2147483648) (w0 : World) (Z : Nat → Prop) : Calls Try.prog 37 #[.int .i64 n] w0 fun e w' => Ret w0 Z (ρ := Option Addr × Nat) (fun r => .slice r.1 (enc n).length r.2) (fun r => [.own (.slice r.1 (enc n).length r.2) 5 1 (enc n).length (bcs (enc n))]) e w' := by
  refine enterS (n := 50) (args := [.int .i64 n]) (S := []) (Z := Z) Try.func37 rfl rfl (Nat.le_of_ble_eq_true rfl) sok0 rfl fun ac hs => ?_
  refine wp_seq ?_
  refine wp_region_lit ?_
  refine lstep (wpO_plain rfl (op_assign hs none rfl rfl rfl rfl fun ac hs => ?_))
  refine wpList_nil ?_
  refine then_n ?_
  refine wp_seq ?_
  refine wp_region_lit ?_
  refine lstep (wpO_plain rfl (op_move hs none rfl rfl rfl rfl fun ac hs => ?_))
  refine lstep (wpO_plain rfl (op_assign hs none rfl rfl rfl rfl fun ac hs => ?_))
  refine wpList_nil ?_
  refine then_n ?_
  refine wp_seq ?_
  refine wp_seq ?_
  refine wp_region_lit ?_
  refine lstep (wpO_plain rfl (op_move hs none rfl rfl rfl rfl fun ac hs => ?_))
  refine lstep (wpO_plain rfl (op_bin hs none (v := .bool (decide (n < 0))) rfl rfl rfl rfl (fun _ => rfl) (bin_lssI (x := n) (y := 0)) rfl fun ac hs => ?_))
  refine wpList_nil ?_
  refine then_n ?_
  refine wp_cond_split (hs.ev rfl) (fun hc => ?_) (fun hc => ?_)
  · skip
    have hp1 := of_decide_eq_true hc
    refine wp_region_lit ?_
    refine lstep (wpO_plain rfl (op_move hs none rfl rfl rfl rfl fun ac hs => ?_))
    refine lstep (wpO_plain rfl (op_un hs none (v := .int .i64 (-n)) rfl rfl rfl (un_neg (by omega) (by omega)) rfl fun ac hs => ?_))
    refine lstep (wpO_plain rfl (op_assign hs none rfl rfl rfl rfl fun ac hs => ?_))
    refine wpList_nil ?_
    refine then_n ?_
    refine wp_seq ?_
    replace hs : St 50 ⟨w0, [], [], Z, noX⟩ [(0, true, .int .i64 n), (2, true, .slice none 0 0), (3, true, .int .i64 (-n))] [] ac _ := hs.re ⟨rfl, rfl, rfl, trivial⟩
    refine wp_region_lit ?_
    refine lstep (wpO_plain rfl (op_bsO0 hs none none (size := 1) rfl rfl Try.underlying34 inf_u8_5 rfl rfl fun ad3 ac w hs => ?_))
    refine lstep (wpO_plain rfl (op_assign hs none rfl rfl rfl rfl fun ac hs => ?_))
    refine wpList_nil ?_
    refine then_n ?_
    refine wp_seq ?_
    refine wp_block ?_
    refine wp_loop_m (fun μ ac w => ∃ (m : Nat) (bs : List UInt8) (ao : Option Addr) (co : Nat), (m) = μ ∧ (bs ++ le m = le n.natAbs) ∧ St 50 ⟨w0, [], [(true, .own (.slice ao bs.length co) 5 1 bs.length (bcs bs))], Z, noX⟩ [(0, true, .int .i64 n), (2, true, .slice none 0 0), (3, true, .int .i64 ((m : Nat) : Int)), (4, true, .slice ao bs.length co)] [] ac w) ?_ ?_
    · exact ⟨_, n.natAbs, ([]), ad3, 0, rfl, rfl, (hs.re (fs' := [(0, true, .int .i64 n), (2, true, .slice none 0 0), (3, true, .int .i64 ((n.natAbs : Nat) : Int)), (4, true, .slice ad3 ([]).length 0)]) ⟨rfl, rfl, (congrArg some (congrArg (Value.int .i64) (show -n = ((n.natAbs : Nat) : Int) by omega))), rfl, trivial⟩)⟩
    intro μ ac w ⟨m, bs, ao, co, hμ, hbs, hs⟩
    have hlen := congrArg List.length hbs
    rw [List.length_append] at hlen
    have hm4 := le_length 4 n.natAbs (by omega)
    have hbl : bs.length ≤ 4 := by omega
    have hmb : m ≤ 2147483648 := le_bound hbs (by omega)
    refine wp_seq ?_
    refine wp_seq ?_
    refine wp_region_lit ?_
    refine lstep (wpO_plain rfl (op_move hs none rfl rfl rfl rfl fun ac hs => ?_))
    refine lstep (wpO_plain rfl (op_bin hs none (v := .bool (decide (0 < m))) rfl rfl rfl rfl (fun _ => rfl) (bin_gtrN (x := m) (y := 0)) rfl fun ac hs => ?_))
    refine wpList_nil ?_
    refine then_n ?_
    refine wp_cond_split (hs.ev rfl) (fun hc => ?_) (fun hc => ?_)
    · skip
      have hp4 := of_decide_eq_true hc
      have hm0 := of_decide_eq_true hc
      refine wp_skip ?_
      refine then_n ?_
      refine wp_block ?_
      refine wp_seq ?_
      refine wp_region_lit ?_
      refine lstep (wpO_plain rfl (op_move hs none rfl rfl rfl rfl fun ac hs => ?_))
      refine lstep (wpO_plain rfl (op_move hs none rfl rfl rfl rfl fun ac hs => ?_))
      refine lstep (wpO_plain rfl (op_convert hs none (v := .int .u8 ((m % 256 : Nat) : Int)) rfl rfl rfl (conv_M (z := m % 256) rfl Try.underlying2 Try.underlying5 rfl) rfl fun ac hs => ?_))
      refine lstep (wpO_plain rfl (op_bsO hs none none (qs := [(0, .int .u8 ((m % 256 : Nat) : Int))]) (cs := [.int .u8 ((m % 256 : Nat) : Int)]) (cs' := bcs [UInt8.ofNat (m % 256)]) rfl rfl rfl rfl Try.underlying34 inf_u8_5 (by decide) (by decide) (fill_one _ _ rfl ) rfl (bcs_cons (show m % 256 < 256 by omega) rfl) rfl rfl fun ad6 ac w hs => ?_))
      refine lstep (wpO_plain rfl (op_appR hs none 0 1 (N' := (bs ++ [UInt8.ofNat (m % 256)]).length) (ys := bcs (bs ++ [UInt8.ofNat (m % 256)])) rfl rfl rfl rfl rfl rfl Try.underlying34 inf_u8_5 rfl (by decide) (bcs_len1 rfl) (bcs_one _) (by decide) (show bs.length + 1 ≤ 1000000 by omega) (by simp only [List.length_append, List.length_cons, List.length_nil] <;> omega) (bcs_append _ _) rfl rfl fun ad7 cp8 ac w hs => ?_))
      refine lstep (wpO_plain rfl (op_assign hs none rfl rfl rfl rfl fun ac hs => ?_))
      refine wpList_nil ?_
      refine then_n ?_
      replace hs : St 50 ⟨w0, [], [(true, .own (.slice ad7 ((bs ++ [UInt8.ofNat (m % 256)]).length) cp8) 5 1 ((bs ++ [UInt8.ofNat (m % 256)]).length) (bcs (bs ++ [UInt8.ofNat (m % 256)]))), (true, .own (.slice ad6 1 1) 5 1 1 (bcs ([UInt8.ofNat (m % 256)])))], Z, noX⟩ [(0, true, .int .i64 n), (2, true, .slice none 0 0), (3, true, .int .i64 ((m : Nat) : Int)), (4, true, .slice ad7 ((bs ++ [UInt8.ofNat (m % 256)]).length) cp8)] [] ac _ := hs.re ⟨rfl, rfl, rfl, rfl, trivial⟩
      refine wp_region_lit ?_
      refine lstep (wpO_plain rfl (op_move hs none rfl rfl rfl rfl fun ac hs => ?_))
      refine lstep (wpO_plain rfl (op_bin hs none (v := .int .i64 ((m / 256 : Nat) : Int)) rfl rfl rfl rfl (fun _ => rfl) (bin_quoN (x := m) (y := 256) (z := m / 256) rfl (by decide) (show m < 9223372036854775808 by omega)) rfl fun ac hs => ?_))
      refine lstep (wpO_plain rfl (op_assign hs none rfl rfl rfl rfl fun ac hs => ?_))
      refine wpList_nil ?_
      refine blk_n ?_
      refine then_n ?_
      replace hs := hs.selS [0] rfl (by decide)
      exact ⟨_, ⟨(m / 256), (bs ++ [UInt8.ofNat (m % 256)]), ad7, cp8, rfl, (le_step hm0 hbs), (hs.re (fs' := [(0, true, .int .i64 n), (2, true, .slice none 0 0), (3, true, .int .i64 (((m / 256) : Nat) : Int)), (4, true, .slice ad7 (bs ++ [UInt8.ofNat (m % 256)]).length cp8)]) ⟨rfl, rfl, rfl, rfl, trivial⟩)⟩, (show m / 256 < μ by omega)⟩
    · skip
      have hp9 := of_decide_eq_false hc
      have hm0 : m = 0 := by have := of_decide_eq_false hc; omega
      rw [hm0, le_zero, List.append_nil] at hbs
      refine wp_exit ?_
      refine then_e ?_
      refine then_e ?_
      refine blk_e ?_
      refine then_n ?_
      refine wp_seq ?_
      refine wp_seq ?_
      by_cases hq10 : 0 < bs.length
      · skip
        obtain ⟨N, hN⟩ : ∃ N, bs.length = N + 1 := ⟨bs.length - 1, by omega⟩
        have hN1 : bs.length - 1 = N := by omega
        refine wp_region_lit ?_
        refine lstep (wpO_plain rfl (op_move hs none rfl rfl rfl rfl fun ac hs => ?_))
        refine lstep (wpO_plain rfl (op_blt hs none (v := .int .i64 ((bs.length : Nat) : Int)) rfl rfl rfl (blt_len Try.underlying34) rfl fun ac hs => ?_))
        refine lstep (wpO_plain rfl (op_bin hs none (v := .bool true) rfl rfl rfl rfl (fun _ => rfl) (fun w => dT hq10 (bin_gtrN (x := bs.length) (y := 0) w)) rfl fun ac hs => ?_))
        refine lstep (wpO_plain rfl (op_move hs none rfl rfl rfl rfl fun ac hs => ?_))
        refine lstep (wpO_in hs rfl rfl rfl (op_move hs none rfl rfl rfl rfl fun ac hs => ?_))
        refine lstep (wpO_in hs rfl rfl rfl (op_move hs none rfl rfl rfl rfl fun ac hs => ?_))
        refine lstep (wpO_in hs rfl rfl rfl (op_blt hs none (v := .int .i64 ((bs.length : Nat) : Int)) rfl rfl rfl (blt_len Try.underlying34) rfl fun ac hs => ?_))
        refine lstep (wpO_in hs rfl rfl rfl (op_bin hs none (v := .int .i64 ((bs.length - 1 : Nat) : Int)) rfl rfl rfl rfl (fun _ => rfl) (bin_subN (x := bs.length) (y := 1) (z := bs.length - 1) (by omega) (show bs.length - 1 < 9223372036854775808 by omega)) rfl fun ac hs => ?_))
        refine lstep (wpO_in hs rfl rfl rfl (op_idxC hs none 0 (j := bs.length - 1) rfl rfl rfl rfl rfl Try.underlying34 Try.sizeOf5 (show bs.length - 1 < bs.length by omega) (off := bs.length - 1) (by omega) rfl fun ac hs => ?_))
        have l11 := byt_lt bs (bs.length - 1)
        refine lstep (wpO_in hs rfl rfl rfl (op_loadC hs none 0 (u := .int .u8 ((byt bs (bs.length - 1) : Nat) : Int)) rfl rfl rfl rfl Try.isAgg5 Try.sizeOf5 (by decide) (bcs_get (show bs.length - 1 < bs.length by omega)) rfl fun ac hs => ?_))
        refine lstep (wpO_in hs rfl rfl rfl (op_bin hs none (v := .bool (decide (128 ≤ byt bs (bs.length - 1)))) rfl rfl rfl rfl (fun _ => rfl) (bin_geqN (x := byt bs (bs.length - 1)) (y := 128)) rfl fun ac hs => ?_))
        refine lstep (wpO_plain rfl (op_pickT hs none rfl rfl rfl rfl rfl fun ac hs => ?_))
        refine wpList_nil ?_
        refine then_n ?_
        refine wp_cond_split (hs.ev rfl) (fun hc => ?_) (fun hc => ?_)
        · skip
          have hp12 := of_decide_eq_true hc
          have hhi := of_decide_eq_true hc
          replace hs : St 50 ⟨w0, [], [(true, .own (.slice ao bs.length co) 5 1 bs.length (bcs bs))], Z, noX⟩ [(0, true, .int .i64 n), (2, true, .slice none 0 0), (4, true, .slice ao bs.length co)] [] ac _ := hs.re ⟨rfl, rfl, rfl, trivial⟩
          refine wp_region_lit ?_
          refine lstep (wpO_plain rfl (op_move hs none rfl rfl rfl rfl fun ac hs => ?_))
          refine lstep (wpO_plain rfl (op_bsO hs none none (qs := [(0, .int .u8 0)]) (cs := [.int .u8 0]) (cs' := bcs [UInt8.ofNat 0]) rfl rfl rfl rfl Try.underlying34 inf_u8_5 (by decide) (by decide) (fill_one _ _ rfl ) rfl (bcs_cons (by decide) rfl) rfl rfl fun ad14 ac w hs => ?_))
          refine lstep (wpO_plain rfl (op_appR hs none 0 1 (N' := (bs ++ [UInt8.ofNat 0]).length) (ys := bcs (bs ++ [UInt8.ofNat 0])) rfl rfl rfl rfl rfl rfl Try.underlying34 inf_u8_5 rfl (by decide) (bcs_len1 rfl) (bcs_one _) (by decide) (show bs.length + 1 ≤ 1000000 by omega) (by simp only [List.length_append, List.length_cons, List.length_nil] <;> omega) (bcs_append _ _) rfl rfl fun ad15 cp16 ac w hs => ?_))
          refine lstep (wpO_plain rfl (op_assign hs none rfl rfl rfl rfl fun ac hs => ?_))
          refine wpList_nil ?_
          refine then_n ?_
          refine wp_seq ?_
          refine wp_seq ?_
          refine wp_region_lit ?_
          refine lstep (wpO_plain rfl (op_move hs none rfl rfl rfl rfl fun ac hs => ?_))
          refine lstep (wpO_plain rfl (op_bin hs none (v := .bool (decide (n < 0))) rfl rfl rfl rfl (fun _ => rfl) (bin_lssI (x := n) (y := 0)) rfl fun ac hs => ?_))
          refine wpList_nil ?_
          refine then_n ?_
          refine wp_cond_true (hs.evb rfl (decide_eq_true hp1)) ?_
          replace hs : St 50 ⟨w0, [], [(true, .own (.slice ad15 ((bs ++ [UInt8.ofNat 0]).length) cp16) 5 1 ((bs ++ [UInt8.ofNat 0]).length) (bcs (bs ++ [UInt8.ofNat 0]))), (true, .own (.slice ad14 1 1) 5 1 1 (bcs ([UInt8.ofNat 0])))], Z, noX⟩ [(2, true, .slice none 0 0), (4, true, .slice ad15 ((bs ++ [UInt8.ofNat 0]).length) cp16)] [] ac _ := hs.re ⟨rfl, rfl, trivial⟩
          refine wp_region_lit ?_
          refine lstep (wpO_plain rfl (op_move hs none rfl rfl rfl rfl fun ac hs => ?_))
          refine lstep (wpO_plain rfl (op_move hs none rfl rfl rfl rfl fun ac hs => ?_))
          refine lstep (wpO_plain rfl (op_blt hs none (v := .int .i64 (((bs ++ [UInt8.ofNat 0]).length : Nat) : Int)) rfl rfl rfl (blt_len Try.underlying34) rfl fun ac hs => ?_))
          refine lstep (wpO_plain rfl (op_bin hs none (v := .int .i64 (((bs ++ [UInt8.ofNat 0]).length - 1 : Nat) : Int)) rfl rfl rfl rfl (fun _ => rfl) (bin_subN (x := (bs ++ [UInt8.ofNat 0]).length) (y := 1) (z := (bs ++ [UInt8.ofNat 0]).length - 1) (show (bs ++ [UInt8.ofNat 0]).length = 1 + ((bs ++ [UInt8.ofNat 0]).length - 1) by first | omega | ((try simp only [List.length_drop, List.length_take, List.length_append, List.length_cons, List.length_nil]); omega)) (show (bs ++ [UInt8.ofNat 0]).length - 1 < 9223372036854775808 by first | omega | ((try simp only [List.length_drop, List.length_take, List.length_append, List.length_cons, List.length_nil]); omega))) rfl fun ac hs => ?_))
          refine lstep (wpO_plain rfl (op_move hs none rfl rfl rfl rfl fun ac hs => ?_))
          refine lstep (wpO_plain rfl (op_move hs none rfl rfl rfl rfl fun ac hs => ?_))
          refine lstep (wpO_plain rfl (op_blt hs none (v := .int .i64 (((bs ++ [UInt8.ofNat 0]).length : Nat) : Int)) rfl rfl rfl (blt_len Try.underlying34) rfl fun ac hs => ?_))
          refine lstep (wpO_plain rfl (op_bin hs none (v := .int .i64 (((bs ++ [UInt8.ofNat 0]).length - 1 : Nat) : Int)) rfl rfl rfl rfl (fun _ => rfl) (bin_subN (x := (bs ++ [UInt8.ofNat 0]).length) (y := 1) (z := (bs ++ [UInt8.ofNat 0]).length - 1) (show (bs ++ [UInt8.ofNat 0]).length = 1 + ((bs ++ [UInt8.ofNat 0]).length - 1) by first | omega | ((try simp only [List.length_drop, List.length_take, List.length_append, List.length_cons, List.length_nil]); omega)) (show (bs ++ [UInt8.ofNat 0]).length - 1 < 9223372036854775808 by first | omega | ((try simp only [List.length_drop, List.length_take, List.length_append, List.length_cons, List.length_nil]); omega))) rfl fun ac hs => ?_))
          refine lstep (wpO_plain rfl (op_idxC hs none 0 (j := (bs ++ [UInt8.ofNat 0]).length - 1) rfl rfl rfl rfl rfl Try.underlying34 Try.sizeOf5 (show (bs ++ [UInt8.ofNat 0]).length - 1 < (bs ++ [UInt8.ofNat 0]).length by first | omega | ((try simp only [List.length_drop, List.length_take, List.length_append, List.length_cons, List.length_nil]); omega)) (off := (bs ++ [UInt8.ofNat 0]).length - 1) (by omega) rfl fun ac hs => ?_))
          have l17 := byt_lt (bs ++ [UInt8.ofNat 0]) ((bs ++ [UInt8.ofNat 0]).length - 1)
          refine lstep (wpO_plain rfl (op_loadC hs none 0 (u := .int .u8 ((byt (bs ++ [UInt8.ofNat 0]) ((bs ++ [UInt8.ofNat 0]).length - 1) : Nat) : Int)) rfl rfl rfl rfl Try.isAgg5 Try.sizeOf5 (by decide) (bcs_get (show (bs ++ [UInt8.ofNat 0]).length - 1 < (bs ++ [UInt8.ofNat 0]).length by first | omega | ((try simp only [List.length_drop, List.length_take, List.length_append, List.length_cons, List.length_nil]); omega))) rfl fun ac hs => ?_))
          refine lstep (wpO_plain rfl (op_bin hs none (v := .int .u8 ((byt (bs ++ [UInt8.ofNat 0]) ((bs ++ [UInt8.ofNat 0]).length - 1) + 128 : Nat) : Int)) rfl rfl rfl rfl (fun _ => rfl) (bin_addN (x := byt (bs ++ [UInt8.ofNat 0]) ((bs ++ [UInt8.ofNat 0]).length - 1)) (y := 128) (z := byt (bs ++ [UInt8.ofNat 0]) ((bs ++ [UInt8.ofNat 0]).length - 1) + 128) rfl (show byt (bs ++ [UInt8.ofNat 0]) ((bs ++ [UInt8.ofNat 0]).length - 1) + 128 < 256 by rw [byt_last0]; decide)) rfl fun ac hs => ?_))
          refine lstep (wpO_plain rfl (op_idxC hs none 0 (j := (bs ++ [UInt8.ofNat 0]).length - 1) rfl rfl rfl rfl rfl Try.underlying34 Try.sizeOf5 (show (bs ++ [UInt8.ofNat 0]).length - 1 < (bs ++ [UInt8.ofNat 0]).length by first | omega | ((try simp only [List.length_drop, List.length_take, List.length_append, List.length_cons, List.length_nil]); omega)) (off := (bs ++ [UInt8.ofNat 0]).length - 1) (by omega) rfl fun ac hs => ?_))
          refine lstep (wpO_plain rfl (op_storeO hs 0 (u := .int .u8 ((byt (bs ++ [UInt8.ofNat 0]) ((bs ++ [UInt8.ofNat 0]).length - 1) + 128 : Nat) : Int)) (xs' := bcs ((bs ++ [UInt8.ofNat 0]).set ((bs ++ [UInt8.ofNat 0]).length - 1) (UInt8.ofNat (byt (bs ++ [UInt8.ofNat 0]) ((bs ++ [UInt8.ofNat 0]).length - 1) + 128)))) rfl rfl rfl rfl rfl rfl (show (bs ++ [UInt8.ofNat 0]).length - 1 < (bs ++ [UInt8.ofNat 0]).length by first | omega | ((try simp only [List.length_drop, List.length_take, List.length_append, List.length_cons, List.length_nil]); omega)) Try.sizeOf5 rfl rfl (bcs_set _ (by rw [byt_last0]; rfl)) fun w hs => ?_))
          refine wpList_nil ?_
          refine then_n ?_
          refine wp_seq ?_
          replace hs : St 50 ⟨w0, [], [(true, .own (.slice ad15 ((bs ++ [UInt8.ofNat 0]).length) cp16) 5 1 ((bs ++ [UInt8.ofNat 0]).length) (bcs ((bs ++ [UInt8.ofNat 0]).set ((bs ++ [UInt8.ofNat 0]).length - 1) (UInt8.ofNat (byt (bs ++ [UInt8.ofNat 0]) ((bs ++ [UInt8.ofNat 0]).length - 1) + 128))))), (true, .own (.slice ad14 1 1) 5 1 1 (bcs ([UInt8.ofNat 0])))], Z, noX⟩ [(2, true, .slice none 0 0), (4, true, .slice ad15 ((bs ++ [UInt8.ofNat 0]).length) cp16)] [] ac _ := hs.re ⟨rfl, rfl, trivial⟩
          refine wp_region_lit ?_
          refine lstep (wpO_plain rfl (op_move hs none rfl rfl rfl rfl fun ac hs => ?_))
          refine lstep (wpO_plain rfl (op_assign hs none rfl rfl rfl rfl fun ac hs => ?_))
          refine wpList_nil ?_
          refine then_n ?_
          refine wp_ret ?_
          have he : enc n = (bs ++ [UInt8.ofNat 0]).set ((bs ++ [UInt8.ofNat 0]).length - 1) (UInt8.ofNat (byt (bs ++ [UInt8.ofNat 0]) ((bs ++ [UInt8.ofNat 0]).length - 1) + 128)) := by unfold enc; rw [decide_eq_true hp1, ← hbs, sgn_high true hN (show (bs.getD N 0).toNat = byt bs (bs.length - 1) by rw [hN1]; rfl) hhi]; exact (set_last0 hN).symm
          rw [← he] at hs
          exact bodyPost_ret (res1 rfl (rv_t hs rfl)) hs.defers ⟨⟨ad15, cp16⟩, (by rw [show (enc n).length = (bs ++ [UInt8.ofNat 0]).length from by rw [he]; (try simp)]), hs.bel rfl, (by have h9 := hs.ret1 0 rfl; (try rw [← show (enc n).length = (bs ++ [UInt8.ofNat 0]).length from by rw [he]; (try simp)] at h9); exact h9)⟩
        · skip
          have hp18 := of_decide_eq_false hc
          have hhi := of_decide_eq_false hc
          refine wp_skip ?_
          refine then_n ?_
          refine wp_seq ?_
          refine wp_seq ?_
          replace hs : St 50 ⟨w0, [], [(true, .own (.slice ao bs.length co) 5 1 bs.length (bcs bs))], Z, noX⟩ [(0, true, .int .i64 n), (2, true, .slice none 0 0), (4, true, .slice ao bs.length co)] [] ac _ := hs.re ⟨rfl, rfl, rfl, trivial⟩
          refine wp_region_lit ?_
          refine lstep (wpO_plain rfl (op_move hs none rfl rfl rfl rfl fun ac hs => ?_))
          refine lstep (wpO_plain rfl (op_bin hs none (v := .bool (decide (n < 0))) rfl rfl rfl rfl (fun _ => rfl) (bin_lssI (x := n) (y := 0)) rfl fun ac hs => ?_))
          refine wpList_nil ?_
          refine then_n ?_
          refine wp_cond_true (hs.evb rfl (decide_eq_true hp1)) ?_
          refine wp_region_lit ?_
          refine lstep (wpO_plain rfl (op_move hs none rfl rfl rfl rfl fun ac hs => ?_))
          refine lstep (wpO_plain rfl (op_move hs none rfl rfl rfl rfl fun ac hs => ?_))
          refine lstep (wpO_plain rfl (op_blt hs none (v := .int .i64 ((bs.length : Nat) : Int)) rfl rfl rfl (blt_len Try.underlying34) rfl fun ac hs => ?_))
          refine lstep (wpO_plain rfl (op_bin hs none (v := .int .i64 ((bs.length - 1 : Nat) : Int)) rfl rfl rfl rfl (fun _ => rfl) (bin_subN (x := bs.length) (y := 1) (z := bs.length - 1) (by omega) (show bs.length - 1 < 9223372036854775808 by omega)) rfl fun ac hs => ?_))
          refine lstep (wpO_plain rfl (op_move hs none rfl rfl rfl rfl fun ac hs => ?_))
          refine lstep (wpO_plain rfl (op_move hs none rfl rfl rfl rfl fun ac hs => ?_))
          refine lstep (wpO_plain rfl (op_blt hs none (v := .int .i64 ((bs.length : Nat) : Int)) rfl rfl rfl (blt_len Try.underlying34) rfl fun ac hs => ?_))
          refine lstep (wpO_plain rfl (op_bin hs none (v := .int .i64 ((bs.length - 1 : Nat) : Int)) rfl rfl rfl rfl (fun _ => rfl) (bin_subN (x := bs.length) (y := 1) (z := bs.length - 1) (by omega) (show bs.length - 1 < 9223372036854775808 by omega)) rfl fun ac hs => ?_))
          refine lstep (wpO_plain rfl (op_idxC hs none 0 (j := bs.length - 1) rfl rfl rfl rfl rfl Try.underlying34 Try.sizeOf5 (show bs.length - 1 < bs.length by omega) (off := bs.length - 1) (by omega) rfl fun ac hs => ?_))
          have l19 := byt_lt bs (bs.length - 1)
          refine lstep (wpO_plain rfl (op_loadC hs none 0 (u := .int .u8 ((byt bs (bs.length - 1) : Nat) : Int)) rfl rfl rfl rfl Try.isAgg5 Try.sizeOf5 (by decide) (bcs_get (show bs.length - 1 < bs.length by omega)) rfl fun ac hs => ?_))
          refine lstep (wpO_plain rfl (op_bin hs none (v := .int .u8 ((byt bs (bs.length - 1) + 128 : Nat) : Int)) rfl rfl rfl rfl (fun _ => rfl) (bin_addN (x := byt bs (bs.length - 1)) (y := 128) (z := byt bs (bs.length - 1) + 128) rfl (show byt bs (bs.length - 1) + 128 < 256 by omega)) rfl fun ac hs => ?_))
          refine lstep (wpO_plain rfl (op_idxC hs none 0 (j := bs.length - 1) rfl rfl rfl rfl rfl Try.underlying34 Try.sizeOf5 (show bs.length - 1 < bs.length by omega) (off := bs.length - 1) (by omega) rfl fun ac hs => ?_))
          refine lstep (wpO_plain rfl (op_storeO hs 0 (u := .int .u8 ((byt bs (bs.length - 1) + 128 : Nat) : Int)) (xs' := bcs (bs.set (bs.length - 1) (UInt8.ofNat (byt bs (bs.length - 1) + 128)))) rfl rfl rfl rfl rfl rfl (show bs.length - 1 < bs.length by omega) Try.sizeOf5 rfl rfl (bcs_set _ (by simp; omega)) fun w hs => ?_))
          refine wpList_nil ?_
          refine then_n ?_
          refine wp_seq ?_
          replace hs : St 50 ⟨w0, [], [(true, .own (.slice ao bs.length co) 5 1 bs.length (bcs (bs.set (bs.length - 1) (UInt8.ofNat (byt bs (bs.length - 1) + 128)))))], Z, noX⟩ [(2, true, .slice none 0 0), (4, true, .slice ao bs.length co)] [] ac _ := hs.re ⟨rfl, rfl, trivial⟩
          refine wp_region_lit ?_
          refine lstep (wpO_plain rfl (op_move hs none rfl rfl rfl rfl fun ac hs => ?_))
          refine lstep (wpO_plain rfl (op_assign hs none rfl rfl rfl rfl fun ac hs => ?_))
          refine wpList_nil ?_
          refine then_n ?_
          refine wp_ret ?_
          have he : enc n = bs.set (bs.length - 1) (UInt8.ofNat (byt bs (bs.length - 1) + 128)) := by unfold enc; rw [decide_eq_true hp1, ← hbs, sgn_low true hN (show (bs.getD N 0).toNat = byt bs (bs.length - 1) by rw [hN1]; rfl) (by omega)]; exact (set_low hN1 (by omega)).symm
          rw [← he] at hs
          exact bodyPost_ret (res1 rfl (rv_t hs rfl)) hs.defers ⟨⟨ao, co⟩, (by rw [show (enc n).length = bs.length from by rw [he]; (try simp)]), hs.bel rfl, (by have h9 := hs.ret1 0 rfl; (try rw [← show (enc n).length = bs.length from by rw [he]; (try simp)] at h9); exact h9)⟩
      · skip
        exact absurd (le_nil n.natAbs (hbs.symm.trans (List.length_eq_zero_iff.1 (by omega)))) (by omega)
  · skip
    have hp20 := of_decide_eq_false hc
    refine wp_skip ?_
    refine then_n ?_
    refine wp_seq ?_
    refine wp_region_lit ?_
    refine lstep (wpO_plain rfl (op_bsO0 hs none none (size := 1) rfl rfl Try.underlying34 inf_u8_5 rfl rfl fun ad22 ac w hs => ?_))
    refine lstep (wpO_plain rfl (op_assign hs none rfl rfl rfl rfl fun ac hs => ?_))
    refine wpList_nil ?_
    refine then_n ?_
    refine wp_seq ?_
    refine wp_block ?_
    refine wp_loop_m (fun μ ac w => ∃ (m : Nat) (bs : List UInt8) (ao : Option Addr) (co : Nat), (m) = μ ∧ (bs ++ le m = le n.natAbs) ∧ St 50 ⟨w0, [], [(true, .own (.slice ao bs.length co) 5 1 bs.length (bcs bs))], Z, noX⟩ [(0, true, .int .i64 n), (2, true, .slice none 0 0), (3, true, .int .i64 ((m : Nat) : Int)), (4, true, .slice ao bs.length co)] [] ac w) ?_ ?_
    · exact ⟨_, n.natAbs, ([]), ad22, 0, rfl, rfl, (hs.re (fs' := [(0, true, .int .i64 n), (2, true, .slice none 0 0), (3, true, .int .i64 ((n.natAbs : Nat) : Int)), (4, true, .slice ad22 ([]).length 0)]) ⟨rfl, rfl, (congrArg some (congrArg (Value.int .i64) (show n = ((n.natAbs : Nat) : Int) by omega))), rfl, trivial⟩)⟩
    intro μ ac w ⟨m, bs, ao, co, hμ, hbs, hs⟩
    have hlen := congrArg List.length hbs
    rw [List.length_append] at hlen
    have hm4 := le_length 4 n.natAbs (by omega)
    have hbl : bs.length ≤ 4 := by omega
    have hmb : m ≤ 2147483648 := le_bound hbs (by omega)
    refine wp_seq ?_
    refine wp_seq ?_
    refine wp_region_lit ?_
    refine lstep (wpO_plain rfl (op_move hs none rfl rfl rfl rfl fun ac hs => ?_))
    refine lstep (wpO_plain rfl (op_bin hs none (v := .bool (decide (0 < m))) rfl rfl rfl rfl (fun _ => rfl) (bin_gtrN (x := m) (y := 0)) rfl fun ac hs => ?_))
    refine wpList_nil ?_
    refine then_n ?_
    refine wp_cond_split (hs.ev rfl) (fun hc => ?_) (fun hc => ?_)
    · skip
      have hp23 := of_decide_eq_true hc
      have hm0 := of_decide_eq_true hc
      refine wp_skip ?_
      refine then_n ?_
      refine wp_block ?_
      refine wp_seq ?_
      refine wp_region_lit ?_
      refine lstep (wpO_plain rfl (op_move hs none rfl rfl rfl rfl fun ac hs => ?_))
      refine lstep (wpO_plain rfl (op_move hs none rfl rfl rfl rfl fun ac hs => ?_))
      refine lstep (wpO_plain rfl (op_convert hs none (v := .int .u8 ((m % 256 : Nat) : Int)) rfl rfl rfl (conv_M (z := m % 256) rfl Try.underlying2 Try.underlying5 rfl) rfl fun ac hs => ?_))
      refine lstep (wpO_plain rfl (op_bsO hs none none (qs := [(0, .int .u8 ((m % 256 : Nat) : Int))]) (cs := [.int .u8 ((m % 256 : Nat) : Int)]) (cs' := bcs [UInt8.ofNat (m % 256)]) rfl rfl rfl rfl Try.underlying34 inf_u8_5 (by decide) (by decide) (fill_one _ _ rfl ) rfl (bcs_cons (show m % 256 < 256 by omega) rfl) rfl rfl fun ad25 ac w hs => ?_))
      refine lstep (wpO_plain rfl (op_appR hs none 0 1 (N' := (bs ++ [UInt8.ofNat (m % 256)]).length) (ys := bcs (bs ++ [UInt8.ofNat (m % 256)])) rfl rfl rfl rfl rfl rfl Try.underlying34 inf_u8_5 rfl (by decide) (bcs_len1 rfl) (bcs_one _) (by decide) (show bs.length + 1 ≤ 1000000 by omega) (by simp only [List.length_append, List.length_cons, List.length_nil] <;> omega) (bcs_append _ _) rfl rfl fun ad26 cp27 ac w hs => ?_))
      refine lstep (wpO_plain rfl (op_assign hs none rfl rfl rfl rfl fun ac hs => ?_))
      refine wpList_nil ?_
      refine then_n ?_
      replace hs : St 50 ⟨w0, [], [(true, .own (.slice ad26 ((bs ++ [UInt8.ofNat (m % 256)]).length) cp27) 5 1 ((bs ++ [UInt8.ofNat (m % 256)]).length) (bcs (bs ++ [UInt8.ofNat (m % 256)]))), (true, .own (.slice ad25 1 1) 5 1 1 (bcs ([UInt8.ofNat (m % 256)])))], Z, noX⟩ [(0, true, .int .i64 n), (2, true, .slice none 0 0), (3, true, .int .i64 ((m : Nat) : Int)), (4, true, .slice ad26 ((bs ++ [UInt8.ofNat (m % 256)]).length) cp27)] [] ac _ := hs.re ⟨rfl, rfl, rfl, rfl, trivial⟩
      refine wp_region_lit ?_
      refine lstep (wpO_plain rfl (op_move hs none rfl rfl rfl rfl fun ac hs => ?_))
      refine lstep (wpO_plain rfl (op_bin hs none (v := .int .i64 ((m / 256 : Nat) : Int)) rfl rfl rfl rfl (fun _ => rfl) (bin_quoN (x := m) (y := 256) (z := m / 256) rfl (by decide) (show m < 9223372036854775808 by omega)) rfl fun ac hs => ?_))
      refine lstep (wpO_plain rfl (op_assign hs none rfl rfl rfl rfl fun ac hs => ?_))
      refine wpList_nil ?_
      refine blk_n ?_
      refine then_n ?_
      replace hs := hs.selS [0] rfl (by decide)
      exact ⟨_, ⟨(m / 256), (bs ++ [UInt8.ofNat (m % 256)]), ad26, cp27, rfl, (le_step hm0 hbs), (hs.re (fs' := [(0, true, .int .i64 n), (2, true, .slice none 0 0), (3, true, .int .i64 (((m / 256) : Nat) : Int)), (4, true, .slice ad26 (bs ++ [UInt8.ofNat (m % 256)]).length cp27)]) ⟨rfl, rfl, rfl, rfl, trivial⟩)⟩, (show m / 256 < μ by omega)⟩
    · skip
      have hp28 := of_decide_eq_false hc
      have hm0 : m = 0 := by have := of_decide_eq_false hc; omega
      rw [hm0, le_zero, List.append_nil] at hbs
      refine wp_exit ?_
      refine then_e ?_
      refine then_e ?_
      refine blk_e ?_
      refine then_n ?_
      refine wp_seq ?_
      refine wp_seq ?_
      by_cases hq29 : 0 < bs.length
      · skip
        obtain ⟨N, hN⟩ : ∃ N, bs.length = N + 1 := ⟨bs.length - 1, by omega⟩
        have hN1 : bs.length - 1 = N := by omega
        refine wp_region_lit ?_
        refine lstep (wpO_plain rfl (op_move hs none rfl rfl rfl rfl fun ac hs => ?_))
        refine lstep (wpO_plain rfl (op_blt hs none (v := .int .i64 ((bs.length : Nat) : Int)) rfl rfl rfl (blt_len Try.underlying34) rfl fun ac hs => ?_))
        refine lstep (wpO_plain rfl (op_bin hs none (v := .bool true) rfl rfl rfl rfl (fun _ => rfl) (fun w => dT hq29 (bin_gtrN (x := bs.length) (y := 0) w)) rfl fun ac hs => ?_))
        refine lstep (wpO_plain rfl (op_move hs none rfl rfl rfl rfl fun ac hs => ?_))
        refine lstep (wpO_in hs rfl rfl rfl (op_move hs none rfl rfl rfl rfl fun ac hs => ?_))
        refine lstep (wpO_in hs rfl rfl rfl (op_move hs none rfl rfl rfl rfl fun ac hs => ?_))
        refine lstep (wpO_in hs rfl rfl rfl (op_blt hs none (v := .int .i64 ((bs.length : Nat) : Int)) rfl rfl rfl (blt_len Try.underlying34) rfl fun ac hs => ?_))
        refine lstep (wpO_in hs rfl rfl rfl (op_bin hs none (v := .int .i64 ((bs.length - 1 : Nat) : Int)) rfl rfl rfl rfl (fun _ => rfl) (bin_subN (x := bs.length) (y := 1) (z := bs.length - 1) (by omega) (show bs.length - 1 < 9223372036854775808 by omega)) rfl fun ac hs => ?_))
        refine lstep (wpO_in hs rfl rfl rfl (op_idxC hs none 0 (j := bs.length - 1) rfl rfl rfl rfl rfl Try.underlying34 Try.sizeOf5 (show bs.length - 1 < bs.length by omega) (off := bs.length - 1) (by omega) rfl fun ac hs => ?_))
        have l30 := byt_lt bs (bs.length - 1)
        refine lstep (wpO_in hs rfl rfl rfl (op_loadC hs none 0 (u := .int .u8 ((byt bs (bs.length - 1) : Nat) : Int)) rfl rfl rfl rfl Try.isAgg5 Try.sizeOf5 (by decide) (bcs_get (show bs.length - 1 < bs.length by omega)) rfl fun ac hs => ?_))
        refine lstep (wpO_in hs rfl rfl rfl (op_bin hs none (v := .bool (decide (128 ≤ byt bs (bs.length - 1)))) rfl rfl rfl rfl (fun _ => rfl) (bin_geqN (x := byt bs (bs.length - 1)) (y := 128)) rfl fun ac hs => ?_))
        refine lstep (wpO_plain rfl (op_pickT hs none rfl rfl rfl rfl rfl fun ac hs => ?_))
        refine wpList_nil ?_
        refine then_n ?_
        refine wp_cond_split (hs.ev rfl) (fun hc => ?_) (fun hc => ?_)
        · skip
          have hp31 := of_decide_eq_true hc
          have hhi := of_decide_eq_true hc
          replace hs : St 50 ⟨w0, [], [(true, .own (.slice ao bs.length co) 5 1 bs.length (bcs bs))], Z, noX⟩ [(0, true, .int .i64 n), (2, true, .slice none 0 0), (4, true, .slice ao bs.length co)] [] ac _ := hs.re ⟨rfl, rfl, rfl, trivial⟩
          refine wp_region_lit ?_
          refine lstep (wpO_plain rfl (op_move hs none rfl rfl rfl rfl fun ac hs => ?_))
          refine lstep (wpO_plain rfl (op_bsO hs none none (qs := [(0, .int .u8 0)]) (cs := [.int .u8 0]) (cs' := bcs [UInt8.ofNat 0]) rfl rfl rfl rfl Try.underlying34 inf_u8_5 (by decide) (by decide) (fill_one _ _ rfl ) rfl (bcs_cons (by decide) rfl) rfl rfl fun ad33 ac w hs => ?_))
          refine lstep (wpO_plain rfl (op_appR hs none 0 1 (N' := (bs ++ [UInt8.ofNat 0]).length) (ys := bcs (bs ++ [UInt8.ofNat 0])) rfl rfl rfl rfl rfl rfl Try.underlying34 inf_u8_5 rfl (by decide) (bcs_len1 rfl) (bcs_one _) (by decide) (show bs.length + 1 ≤ 1000000 by omega) (by simp only [List.length_append, List.length_cons, List.length_nil] <;> omega) (bcs_append _ _) rfl rfl fun ad34 cp35 ac w hs => ?_))
          refine lstep (wpO_plain rfl (op_assign hs none rfl rfl rfl rfl fun ac hs => ?_))
          refine wpList_nil ?_
          refine then_n ?_
          refine wp_seq ?_
          refine wp_seq ?_
          refine wp_region_lit ?_
          refine lstep (wpO_plain rfl (op_move hs none rfl rfl rfl rfl fun ac hs => ?_))
          refine lstep (wpO_plain rfl (op_bin hs none (v := .bool (decide (n < 0))) rfl rfl rfl rfl (fun _ => rfl) (bin_lssI (x := n) (y := 0)) rfl fun ac hs => ?_))
          refine wpList_nil ?_
          refine then_n ?_
          refine wp_cond_false (hs.evb rfl (decide_eq_false hp20)) ?_
          refine wp_skip ?_
          refine then_n ?_
          refine wp_seq ?_
          replace hs : St 50 ⟨w0, [], [(true, .own (.slice ad34 ((bs ++ [UInt8.ofNat 0]).length) cp35) 5 1 ((bs ++ [UInt8.ofNat 0]).length) (bcs (bs ++ [UInt8.ofNat 0]))), (true, .own (.slice ad33 1 1) 5 1 1 (bcs ([UInt8.ofNat 0])))], Z, noX⟩ [(2, true, .slice none 0 0), (4, true, .slice ad34 ((bs ++ [UInt8.ofNat 0]).length) cp35)] [] ac _ := hs.re ⟨rfl, rfl, trivial⟩
          refine wp_region_lit ?_
          refine lstep (wpO_plain rfl (op_move hs none rfl rfl rfl rfl fun ac hs => ?_))
          refine lstep (wpO_plain rfl (op_assign hs none rfl rfl rfl rfl fun ac hs => ?_))
          refine wpList_nil ?_
          refine then_n ?_
          refine wp_ret ?_
          have he : enc n = bs ++ [UInt8.ofNat 0] := by unfold enc; rw [decide_eq_false hp20, ← hbs, sgn_high false hN (show (bs.getD N 0).toNat = byt bs (bs.length - 1) by rw [hN1]; rfl) hhi]; rfl
          rw [← he] at hs
          exact bodyPost_ret (res1 rfl (rv_t hs rfl)) hs.defers ⟨⟨ad34, cp35⟩, (by rw [show (enc n).length = (bs ++ [UInt8.ofNat 0]).length from by rw [he]; (try simp)]), hs.bel rfl, (by have h9 := hs.ret1 0 rfl; (try rw [← show (enc n).length = (bs ++ [UInt8.ofNat 0]).length from by rw [he]; (try simp)] at h9); exact h9)⟩
        · skip
          have hp36 := of_decide_eq_false hc
          have hhi := of_decide_eq_false hc
          refine wp_skip ?_
          refine then_n ?_
          refine wp_seq ?_
          refine wp_seq ?_
          replace hs : St 50 ⟨w0, [], [(true, .own (.slice ao bs.length co) 5 1 bs.length (bcs bs))], Z, noX⟩ [(0, true, .int .i64 n), (2, true, .slice none 0 0), (4, true, .slice ao bs.length co)] [] ac _ := hs.re ⟨rfl, rfl, rfl, trivial⟩
          refine wp_region_lit ?_
          refine lstep (wpO_plain rfl (op_move hs none rfl rfl rfl rfl fun ac hs => ?_))
          refine lstep (wpO_plain rfl (op_bin hs none (v := .bool (decide (n < 0))) rfl rfl rfl rfl (fun _ => rfl) (bin_lssI (x := n) (y := 0)) rfl fun ac hs => ?_))
          refine wpList_nil ?_
          refine then_n ?_
          refine wp_cond_false (hs.evb rfl (decide_eq_false hp20)) ?_
          refine wp_skip ?_
          refine then_n ?_
          refine wp_seq ?_
          refine wp_region_lit ?_
          refine lstep (wpO_plain rfl (op_move hs none rfl rfl rfl rfl fun ac hs => ?_))
          refine lstep (wpO_plain rfl (op_assign hs none rfl rfl rfl rfl fun ac hs => ?_))
          refine wpList_nil ?_
          refine then_n ?_
          refine wp_ret ?_
          have he : enc n = bs := by unfold enc; rw [decide_eq_false hp20, ← hbs, sgn_low false hN (show (bs.getD N 0).toNat = byt bs (bs.length - 1) by rw [hN1]; rfl) (by omega)]; rfl
          rw [← he] at hs
          exact bodyPost_ret (res1 rfl (rv_t hs rfl)) hs.defers ⟨⟨ao, co⟩, (by rw [show (enc n).length = bs.length from by rw [he]; (try simp)]), hs.bel rfl, (by have h9 := hs.ret1 0 rfl; (try rw [← show (enc n).length = bs.length from by rw [he]; (try simp)] at h9); exact h9)⟩
      · skip
        refine wp_region_lit ?_
        refine lstep (wpO_plain rfl (op_move hs none rfl rfl rfl rfl fun ac hs => ?_))
        refine lstep (wpO_plain rfl (op_blt hs none (v := .int .i64 ((bs.length : Nat) : Int)) rfl rfl rfl (blt_len Try.underlying34) rfl fun ac hs => ?_))
        refine lstep (wpO_plain rfl (op_bin hs none (v := .bool false) rfl rfl rfl rfl (fun _ => rfl) (fun w => dF hq29 (bin_gtrN (x := bs.length) (y := 0) w)) rfl fun ac hs => ?_))
        refine lstep (wpO_plain rfl (op_move hs none rfl rfl rfl rfl fun ac hs => ?_))
        refine lstep (wpO_out hs none rfl rfl (.inl rfl) rfl rfl fun ac hs => ?_)
        refine lstep (wpO_out hs none rfl rfl (.inl rfl) rfl rfl fun ac hs => ?_)
        refine lstep (wpO_out hs none rfl rfl (.inl rfl) rfl rfl fun ac hs => ?_)
        refine lstep (wpO_out hs none rfl rfl (.inl rfl) rfl rfl fun ac hs => ?_)
        refine lstep (wpO_out hs none rfl rfl (.inl rfl) rfl rfl fun ac hs => ?_)
        refine lstep (wpO_out hs none rfl rfl (.inl rfl) rfl rfl fun ac hs => ?_)
        refine lstep (wpO_out hs none rfl rfl (.inl rfl) rfl rfl fun ac hs => ?_)
        refine lstep (wpO_plain rfl (op_pickF hs none rfl rfl rfl rfl rfl fun ac hs => ?_))
        refine wpList_nil ?_
        refine then_n ?_
        refine wp_cond_false (hs.ev rfl) ?_
        refine wp_skip ?_
        refine then_n ?_
        refine wp_seq ?_
        refine wp_seq ?_
        replace hs : St 50 ⟨w0, [], [(true, .own (.slice ao bs.length co) 5 1 bs.length (bcs bs))], Z, noX⟩ [(0, true, .int .i64 n), (2, true, .slice none 0 0), (4, true, .slice ao bs.length co)] [] ac _ := hs.re ⟨rfl, rfl, rfl, trivial⟩
        refine wp_region_lit ?_
        refine lstep (wpO_plain rfl (op_move hs none rfl rfl rfl rfl fun ac hs => ?_))
        refine lstep (wpO_plain rfl (op_bin hs none (v := .bool (decide (n < 0))) rfl rfl rfl rfl (fun _ => rfl) (bin_lssI (x := n) (y := 0)) rfl fun ac hs => ?_))
        refine wpList_nil ?_
        refine then_n ?_
        refine wp_cond_false (hs.evb rfl (decide_eq_false hp20)) ?_
        refine wp_skip ?_
        refine then_n ?_
        refine wp_seq ?_
        refine wp_region_lit ?_
        refine lstep (wpO_plain rfl (op_move hs none rfl rfl rfl rfl fun ac hs => ?_))
        refine lstep (wpO_plain rfl (op_assign hs none rfl rfl rfl rfl fun ac hs => ?_))
        refine wpList_nil ?_
        refine then_n ?_
        refine wp_ret ?_
        have he : enc n = bs := by unfold enc; rw [decide_eq_false hp20, ← hbs, List.length_eq_zero_iff.1 (show bs.length = 0 by omega)]; rfl
        rw [← he] at hs
        exact bodyPost_ret (res1 rfl (rv_t hs rfl)) hs.defers ⟨⟨ao, co⟩, (by rw [show (enc n).length = bs.length from by rw [he]; (try simp)]), hs.bel rfl, (by have h9 := hs.ret1 0 rfl; (try rw [← show (enc n).length = bs.length from by rw [he]; (try simp)] at h9); exact h9)⟩
theorem two_c (op : Nat) (a b z : Int) (hop : numOp op = true) (ha : -2147483648 < a ∧ a < 2147483648) (hb : -2147483648 < b ∧ b < 2147483648) (hz : (binL op a b).1 = z) (w0 : World) (Z : Nat → Prop) : Calls Try.prog 18 #[.int .u8 ((op : Nat) : Int), .int .i64 a, .int .i64 b] w0 fun e w' => Ret w0 Z (ρ := Unit) (fun r => .int .i64 z) (fun r => []) e w' := by
  refine enterS (n := 36) (args := [.int .u8 ((op : Nat) : Int), .int .i64 a, .int .i64 b]) (S := []) (Z := Z) Try.func18 rfl rfl (Nat.le_of_ble_eq_true rfl) sok0 rfl fun ac hs => ?_
  refine wp_seq ?_
  refine wp_region_lit ?_
  refine lstep (wpO_plain rfl (op_assign hs none rfl rfl rfl rfl fun ac hs => ?_))
  refine wpList_nil ?_
  refine then_n ?_
  refine wp_seq ?_
  refine wp_region_lit ?_
  refine lstep (wpO_plain rfl (op_move hs none rfl rfl rfl rfl fun ac hs => ?_))
  refine lstep (wpO_plain rfl (op_move hs none rfl rfl rfl rfl fun ac hs => ?_))
  have lad1 : (enc a).length ≤ 4 := enc_len4 ha.1 ha.2
  refine lstep (wpO_plain rfl (op_callV (F := 37) (ρ := Option Addr × Nat) hs none none (v := fun r => .slice r.1 ((enc a).length) r.2) (E := fun r => [.own (.slice r.1 ((enc a).length) r.2) 5 1 ((enc a).length) (bcs (enc a))]) (j := 1) rfl rfl rfl rfl (Try.call37 _) (fun hs => lenc_c a ha.1 ha.2 _ _) (fun _ => rfl) (fun _ => rfl) rfl rfl fun ⟨ad1, cp2⟩ ac w hs => ?_))
  refine lstep (wpO_plain rfl (op_move hs none rfl rfl rfl rfl fun ac hs => ?_))
  have lad3 : (enc b).length ≤ 4 := enc_len4 hb.1 hb.2
  refine lstep (wpO_plain rfl (op_callV (F := 37) (ρ := Option Addr × Nat) hs none none (v := fun r => .slice r.1 ((enc b).length) r.2) (E := fun r => [.own (.slice r.1 ((enc b).length) r.2) 5 1 ((enc b).length) (bcs (enc b))]) (j := 1) rfl rfl rfl rfl (Try.call37 _) (fun hs => lenc_c b hb.1 hb.2 _ _) (fun _ => rfl) (fun _ => rfl) rfl rfl fun ⟨ad3, cp4⟩ ac w hs => ?_))
  refine lstep (wpO_plain rfl (op_bsO hs none none (qs := [(0, .slice ad1 ((enc a).length) cp2), (1, .slice ad3 ((enc b).length) cp4)]) (cs := [.slice ad1 ((enc a).length) cp2, .slice ad3 ((enc b).length) cp4]) rfl rfl rfl rfl Try.underlying22 inf_slice_34 (by decide) (by decide) (fill_two _ _ _ rfl rfl) rfl rfl rfl rfl fun ad6 ac w hs => ?_))
  refine lstep (wpO_plain rfl (op_build hs none (qs := [(0, .slice ad6 2 2)]) (v := .agg #[.slice ad6 2 2, .slice none 0 0]) rfl rfl rfl rfl (fun _ => by kernel_rfl) rfl fun ac hs => ?_))
  replace hs := hs.freeze 2 rfl
  replace hs := hs.nilBys none rfl
  replace hs := hs.freeze 0 rfl
  replace hs := hs.snocBys (l := enc a) (ls' := [enc a]) 3 0 rfl rfl rfl
  replace hs := hs.freeze 1 rfl
  replace hs := hs.snocBys (l := enc b) (ls' := [enc a, enc b]) 3 1 rfl rfl rfl
  replace hs := hs.bysEq 3 (vs' := [.slice ad1 ((enc a).length) cp2, .slice ad3 ((enc b).length) cp4]) (ls' := [enc a, enc b]) rfl rfl rfl
  replace hs : St 36 ⟨w0, [], [(true, .cel (.slice ad1 ((enc a).length) cp2) ((enc a).length) (bcs (enc a))), (true, .cel (.slice ad3 ((enc b).length) cp4) ((enc b).length) (bcs (enc b))), (true, .cel (.slice ad6 2 2) 2 ([.slice ad1 ((enc a).length) cp2, .slice ad3 ((enc b).length) cp4])), (true, .bys ([.slice ad1 ((enc a).length) cp2, .slice ad3 ((enc b).length) cp4]) ([enc a, enc b]))], Z, noX⟩ [(0, true, .int .u8 ((op : Nat) : Int)), (1, true, .int .i64 a), (2, true, .int .i64 b), (6, true, .int .i64 0), (13, true, .int .u8 ((op : Nat) : Int)), (14, true, .int .i64 a), (15, true, .slice ad1 ((enc a).length) cp2), (16, true, .int .i64 b), (17, true, .slice ad3 ((enc b).length) cp4), (18, true, .slice ad6 2 2), (19, true, .agg #[.slice ad6 2 2, .slice none 0 0])] [] ac _ := hs.re ⟨rfl, rfl, rfl, rfl, rfl, rfl, rfl, rfl, rfl, rfl, rfl, trivial⟩
  replace hs := hs.nilCel none rfl
  replace hs := hs.nilBys none rfl
  replace hs : St 36 ⟨w0, [], [(true, .cel (.slice ad1 ((enc a).length) cp2) ((enc a).length) (bcs (enc a))), (true, .cel (.slice ad3 ((enc b).length) cp4) ((enc b).length) (bcs (enc b))), (true, .cel (.slice ad6 2 2) 2 ([.slice ad1 ((enc a).length) cp2, .slice ad3 ((enc b).length) cp4])), (true, .bys ([.slice ad1 ((enc a).length) cp2, .slice ad3 ((enc b).length) cp4]) ([enc a, enc b])), (true, .cel (.slice none 0 0) 0 ([])), (true, .bys ([]) ([]))], Z, noX⟩ [(0, true, .int .u8 ((op : Nat) : Int)), (1, true, .int .i64 a), (2, true, .int .i64 b), (6, true, .int .i64 0), (13, true, .int .u8 ((op : Nat) : Int)), (14, true, .int .i64 a), (15, true, .slice ad1 ((enc a).length) cp2), (16, true, .int .i64 b), (17, true, .slice ad3 ((enc b).length) cp4), (18, true, .slice ad6 2 2), (19, true, .agg #[.slice ad6 2 2, .slice none 0 0])] [] ac _ := hs.re ⟨rfl, rfl, rfl, rfl, rfl, rfl, rfl, rfl, rfl, rfl, rfl, trivial⟩
  refine lstep (wpO_plain rfl (op_callX (F := 11) (ρ := M2) hs none none [] [2, 3, 4, 5] (v := fun r => .tuple #[.agg #[.slice r.a (([enc z]).length) r.c, .slice r.b (([]).length) r.d], .int .i64 0]) (S1 := [(true, .cel (.slice ad6 2 2) 2 ([.slice ad1 ((enc a).length) cp2, .slice ad3 ((enc b).length) cp4])), (true, .bys ([.slice ad1 ((enc a).length) cp2, .slice ad3 ((enc b).length) cp4]) ([enc a, enc b])), (true, .cel (.slice none 0 0) 0 ([])), (true, .bys ([]) ([]))]) (bs1 := []) (E := fun r => [(true, .cel (.slice ad6 2 2) 2 ([.slice ad1 ((enc a).length) cp2, .slice ad3 ((enc b).length) cp4])), (true, .bys ([.slice ad1 ((enc a).length) cp2, .slice ad3 ((enc b).length) cp4]) ([enc a, enc b])), (true, .cel (.slice none 0 0) 0 ([])), (true, .bys ([]) ([])), (true, .own (.slice r.a (([enc z]).length) r.c) 34 1 (([enc z]).length) r.vs), (true, .own (.slice r.b (([]).length) r.d) 34 1 (([]).length) r.us), (true, .bysO r.G (r.vs ++ r.us ++ ([])) (([enc z]) ++ ([]) ++ ([])))]) (E1 := fun r => [(true, .cel (.slice ad6 2 2) 2 ([.slice ad1 ((enc a).length) cp2, .slice ad3 ((enc b).length) cp4])), (true, .bys ([.slice ad1 ((enc a).length) cp2, .slice ad3 ((enc b).length) cp4]) ([enc a, enc b])), (true, .cel (.slice none 0 0) 0 ([])), (true, .bys ([]) ([]))]) (E2 := fun r => [.own (.slice r.a (([enc z]).length) r.c) 34 1 (([enc z]).length) r.vs, .own (.slice r.b (([]).length) r.d) 34 1 (([]).length) r.us, .bysO r.G (r.vs ++ r.us ++ ([])) (([enc z]) ++ ([]) ++ ([]))]) (bfA := fun r => []) (bf := fun r => []) (bf2 := fun r => []) rfl rfl rfl rfl rfl (Try.call11 _) rfl rfl (by decide) (by decide) (fun Z X hm => do_c ad6 2 ([.slice ad1 ((enc a).length) cp2, .slice ad3 ((enc b).length) cp4]) none 0 ([]) ([enc a, enc b]) ([]) op ([enc z]) ([]) 0 (ok_pair (enc_len4 ha.1 ha.2) (enc_len4 hb.1 hb.2)) OkN.nil (num_do hop ha hb hz) _ _ _ hm) (fun _ => rfl) (fun _ => rfl) (fun _ => rfl) (fun _ => rfl) (fun _ => rfl) rfl fun ⟨ad10, cp11, vs12, ad13, cp14, us15, G16⟩ ac w hs => ?_))
  refine lstep (wpO_plain rfl (op_move hs none rfl rfl rfl rfl fun ac hs => ?_))
  refine lstep (wpO_plain rfl (op_extract hs none rfl rfl rfl rfl rfl fun ac hs => ?_))
  refine lstep (wpO_plain rfl (op_extract hs none rfl rfl rfl rfl rfl fun ac hs => ?_))
  refine lstep (wpO_plain rfl (op_alloc hs none none (cs := [.slice none 0 0, .slice none 0 0]) rfl rfl Try.zeroValue24 (by kernel_rfl) rfl rfl fun g17 ac w hs => ?_))
  refine lstep (wpO_plain rfl (op_store hs 0 (vs := [.slice ad10 (([enc z]).length) cp11, .slice ad13 (([]).length) cp14]) rfl rfl rfl rfl rfl Try.sizeOf24 rfl rfl rfl rfl rfl fun w hs => ?_))
  refine lstep (wpO_plain rfl (op_assign hs none rfl rfl rfl rfl fun ac hs => ?_))
  refine wpList_nil ?_
  replace hs : St 36 ⟨w0, [], [(true, .cel (.slice ad1 ((enc a).length) cp2) ((enc a).length) (bcs (enc a))), (true, .cel (.slice ad3 ((enc b).length) cp4) ((enc b).length) (bcs (enc b))), (true, .cel (.slice ad6 2 2) 2 ([.slice ad1 ((enc a).length) cp2, .slice ad3 ((enc b).length) cp4])), (true, .bys ([.slice ad1 ((enc a).length) cp2, .slice ad3 ((enc b).length) cp4]) ([enc a, enc b])), (true, .cel (.slice none 0 0) 0 ([])), (true, .bys ([]) ([])), (true, .own (.slice ad10 (([enc z]).length) cp11) 34 1 (([enc z]).length) vs12), (true, .own (.slice ad13 (([]).length) cp14) 34 1 (([]).length) us15), (true, .bysO G16 (vs12 ++ us15 ++ ([])) (([enc z]) ++ ([]) ++ ([])))], Z, noX⟩ [(0, true, .int .u8 ((op : Nat) : Int)), (1, true, .int .i64 a), (2, true, .int .i64 b), (6, true, .int .i64 0), (13, true, .int .u8 ((op : Nat) : Int)), (14, true, .int .i64 a), (15, true, .slice ad1 ((enc a).length) cp2), (16, true, .int .i64 b), (17, true, .slice ad3 ((enc b).length) cp4), (18, true, .slice ad6 2 2), (19, true, .agg #[.slice ad6 2 2, .slice none 0 0]), (20, true, .tuple #[.agg #[.slice ad10 (([enc z]).length) cp11, .slice ad13 (([]).length) cp14], .int .i64 0]), (12, true, .tuple #[.agg #[.slice ad10 (([enc z]).length) cp11, .slice ad13 (([]).length) cp14], .int .i64 0]), (21, true, .agg #[.slice ad10 (([enc z]).length) cp11, .slice ad13 (([]).length) cp14]), (22, true, .int .i64 0), (7, true, .pointer (some ⟨g17, 0, none⟩)), (8, true, .int .i64 0)] [(true, g17, 24, [.slice ad10 (([enc z]).length) cp11, .slice ad13 (([]).length) cp14])] ac _ := hs.re ⟨rfl, rfl, rfl, rfl, rfl, rfl, rfl, rfl, rfl, rfl, rfl, rfl, rfl, rfl, rfl, rfl, rfl, trivial⟩
  have hl18 := hs.ownLen 6 rfl
  replace hs := hs.freeze 6 rfl
  have hl19 := hs.ownLen 7 rfl
  replace hs := hs.freeze 7 rfl
  replace hs := hs.freezeB 8 rfl
  replace hs := hs.splitY 8 rfl hl18 hl19
  replace hs : St 36 ⟨w0, [], [(true, .cel (.slice ad1 ((enc a).length) cp2) ((enc a).length) (bcs (enc a))), (true, .cel (.slice ad3 ((enc b).length) cp4) ((enc b).length) (bcs (enc b))), (true, .cel (.slice ad6 2 2) 2 ([.slice ad1 ((enc a).length) cp2, .slice ad3 ((enc b).length) cp4])), (true, .bys ([.slice ad1 ((enc a).length) cp2, .slice ad3 ((enc b).length) cp4]) ([enc a, enc b])), (true, .cel (.slice none 0 0) 0 ([])), (true, .bys ([]) ([])), (true, .cel (.slice ad10 (([enc z]).length) cp11) (([enc z]).length) vs12), (true, .cel (.slice ad13 (([]).length) cp14) (([]).length) us15), (true, .bys (vs12 ++ us15 ++ ([])) (([enc z]) ++ ([]) ++ ([]))), (true, .bys vs12 ([enc z])), (true, .bys us15 ([]))], Z, noX⟩ [(0, true, .int .u8 ((op : Nat) : Int)), (1, true, .int .i64 a), (2, true, .int .i64 b), (6, true, .int .i64 0), (13, true, .int .u8 ((op : Nat) : Int)), (14, true, .int .i64 a), (15, true, .slice ad1 ((enc a).length) cp2), (16, true, .int .i64 b), (17, true, .slice ad3 ((enc b).length) cp4), (18, true, .slice ad6 2 2), (19, true, .agg #[.slice ad6 2 2, .slice none 0 0]), (20, true, .tuple #[.agg #[.slice ad10 (([enc z]).length) cp11, .slice ad13 (([]).length) cp14], .int .i64 0]), (12, true, .tuple #[.agg #[.slice ad10 (([enc z]).length) cp11, .slice ad13 (([]).length) cp14], .int .i64 0]), (21, true, .agg #[.slice ad10 (([enc z]).length) cp11, .slice ad13 (([]).length) cp14]), (22, true, .int .i64 0), (7, true, .pointer (some ⟨g17, 0, none⟩)), (8, true, .int .i64 0)] [(true, g17, 24, [.slice ad10 (([enc z]).length) cp11, .slice ad13 (([]).length) cp14])] ac _ := hs.re ⟨rfl, rfl, rfl, rfl, rfl, rfl, rfl, rfl, rfl, rfl, rfl, rfl, rfl, rfl, rfl, rfl, rfl, trivial⟩
  refine then_n ?_
  refine wp_seq ?_
  refine wp_region_lit ?_
  refine lstep (wpO_plain rfl (op_load hs none 0 (v := .agg #[.slice ad10 (([enc z]).length) cp11, .slice ad13 (([]).length) cp14]) rfl rfl rfl rfl Try.isAgg24 Try.sizeOf24 rfl rfl fun ac hs => ?_))
  obtain ⟨p23, hp23⟩ : ∃ z0, (popL ([enc z]) 0).1 = z0 := ⟨_, rfl⟩
  refine lstep (wpO_plain rfl (op_callX (F := 23) (ρ := M2x) hs none none [] [6, 9, 7, 10] (v := fun r => .tuple #[.int .i64 z, .agg #[.slice r.a (([]).length) r.c, .slice r.b (([]).length) r.d], .int .i64 0]) (S1 := [(true, .cel (.slice ad10 (([enc z]).length) cp11) (([enc z]).length) vs12), (true, .bys vs12 ([enc z])), (true, .cel (.slice ad13 (([]).length) cp14) (([]).length) us15), (true, .bys us15 ([]))]) (bs1 := []) (E := fun r => [(true, .cel (.slice ad10 (([enc z]).length) cp11) (([enc z]).length) vs12), (true, .bys vs12 ([enc z])), (true, .cel (.slice ad13 (([]).length) cp14) (([]).length) us15), (true, .bys us15 ([])), (true, .own (.slice r.a (([]).length) r.c) 34 1 (([]).length) r.vs), (true, .own (.slice r.b (([]).length) r.d) 34 1 (([]).length) r.us), (true, .bysO r.G (r.vs ++ r.us ++ ([] ++ [.slice r.x p23.length r.y])) (([]) ++ ([]) ++ ([] ++ [p23])))]) (E1 := fun r => [(true, .cel (.slice ad10 (([enc z]).length) cp11) (([enc z]).length) vs12), (true, .bys vs12 ([enc z])), (true, .cel (.slice ad13 (([]).length) cp14) (([]).length) us15), (true, .bys us15 ([]))]) (E2 := fun r => [.own (.slice r.a (([]).length) r.c) 34 1 (([]).length) r.vs, .own (.slice r.b (([]).length) r.d) 34 1 (([]).length) r.us, .bysO r.G (r.vs ++ r.us ++ ([] ++ [.slice r.x p23.length r.y])) (([]) ++ ([]) ++ ([] ++ [p23]))]) (bfA := fun r => []) (bf := fun r => []) (bf2 := fun r => []) rfl rfl rfl rfl rfl (Try.call23 _) rfl rfl (by decide) (by decide) (fun Z X hm => popn_c ad10 cp11 vs12 ad13 cp14 us15 ([enc z]) ([]) 8 z p23 ([]) ([]) 0 (ok_one (two_len ha hb hz)) OkN.nil hp23 (num_pop (two_bd ha hb hz).1 (two_bd ha hb hz).2) _ _ _ hm) (fun _ => rfl) (fun _ => rfl) (fun _ => rfl) (fun _ => rfl) (fun _ => rfl) rfl fun ⟨ad24, cp25, vs26, ad27, cp28, us29, G30, ad31, cp32⟩ ac w hs => ?_))
  refine lstep (wpO_plain rfl (op_move hs none rfl rfl rfl rfl fun ac hs => ?_))
  refine lstep (wpO_plain rfl (op_extract hs none rfl rfl rfl rfl rfl fun ac hs => ?_))
  refine lstep (wpO_plain rfl (op_extract hs none rfl rfl rfl rfl rfl fun ac hs => ?_))
  refine lstep (wpO_plain rfl (op_extract hs none rfl rfl rfl rfl rfl fun ac hs => ?_))
  refine lstep (wpO_plain rfl (op_alloc hs none none (cs := [.slice none 0 0, .slice none 0 0]) rfl rfl Try.zeroValue24 (by kernel_rfl) rfl rfl fun g34 ac w hs => ?_))
  refine lstep (wpO_plain rfl (op_assign hs none rfl rfl rfl rfl fun ac hs => ?_))
  refine lstep (wpO_plain rfl (op_store hs 1 (vs := [.slice ad24 (([]).length) cp25, .slice ad27 (([]).length) cp28]) rfl rfl rfl rfl rfl Try.sizeOf24 rfl rfl rfl rfl rfl fun w hs => ?_))
  refine lstep (wpO_plain rfl (op_assign hs none rfl rfl rfl rfl fun ac hs => ?_))
  refine wpList_nil ?_
  refine then_n ?_
  refine wp_seq ?_
  refine wp_seq ?_
  replace hs : St 36 ⟨w0, [], [(true, .cel (.slice ad1 ((enc a).length) cp2) ((enc a).length) (bcs (enc a))), (true, .cel (.slice ad3 ((enc b).length) cp4) ((enc b).length) (bcs (enc b))), (true, .cel (.slice ad6 2 2) 2 ([.slice ad1 ((enc a).length) cp2, .slice ad3 ((enc b).length) cp4])), (true, .bys ([.slice ad1 ((enc a).length) cp2, .slice ad3 ((enc b).length) cp4]) ([enc a, enc b])), (true, .cel (.slice none 0 0) 0 ([])), (true, .bys ([]) ([])), (true, .cel (.slice ad10 (([enc z]).length) cp11) (([enc z]).length) vs12), (true, .cel (.slice ad13 (([]).length) cp14) (([]).length) us15), (true, .bys (vs12 ++ us15 ++ ([])) (([enc z]) ++ ([]) ++ ([]))), (true, .bys vs12 ([enc z])), (true, .bys us15 ([])), (true, .own (.slice ad24 (([]).length) cp25) 34 1 (([]).length) vs26), (true, .own (.slice ad27 (([]).length) cp28) 34 1 (([]).length) us29), (true, .bysO G30 (vs26 ++ us29 ++ ([] ++ [.slice ad31 p23.length cp32])) (([]) ++ ([]) ++ ([] ++ [p23])))], Z, noX⟩ [(6, true, .int .i64 0), (8, true, .int .i64 0), (9, true, .int .i64 z), (11, true, .int .i64 0)] [(true, g17, 24, [.slice ad10 (([enc z]).length) cp11, .slice ad13 (([]).length) cp14]), (true, g34, 24, [.slice ad24 (([]).length) cp25, .slice ad27 (([]).length) cp28])] ac _ := hs.re ⟨rfl, rfl, rfl, rfl, trivial⟩
  refine wp_region_lit ?_
  refine lstep (wpO_plain rfl (op_move hs none rfl rfl rfl rfl fun ac hs => ?_))
  refine lstep (wpO_plain rfl (op_bin hs none (v := .bool false) rfl rfl rfl rfl (fun _ => rfl) (fun _ => by kernel_rfl) rfl fun ac hs => ?_))
  refine lstep (wpO_plain rfl (op_move hs none rfl rfl rfl rfl fun ac hs => ?_))
  refine lstep (wpO_in hs rfl rfl rfl (op_move hs none rfl rfl rfl rfl fun ac hs => ?_))
  refine lstep (wpO_in hs rfl rfl rfl (op_bin hs none (v := .bool false) rfl rfl rfl rfl (fun _ => rfl) (fun _ => by kernel_rfl) rfl fun ac hs => ?_))
  refine lstep (wpO_plain rfl (op_pickF hs none rfl rfl rfl rfl rfl fun ac hs => ?_))
  refine wpList_nil ?_
  refine then_n ?_
  refine wp_cond_false (hs.ev rfl) ?_
  refine wp_skip ?_
  refine then_n ?_
  refine wp_seq ?_
  replace hs : St 36 ⟨w0, [], [(true, .cel (.slice ad1 ((enc a).length) cp2) ((enc a).length) (bcs (enc a))), (true, .cel (.slice ad3 ((enc b).length) cp4) ((enc b).length) (bcs (enc b))), (true, .cel (.slice ad6 2 2) 2 ([.slice ad1 ((enc a).length) cp2, .slice ad3 ((enc b).length) cp4])), (true, .bys ([.slice ad1 ((enc a).length) cp2, .slice ad3 ((enc b).length) cp4]) ([enc a, enc b])), (true, .cel (.slice none 0 0) 0 ([])), (true, .bys ([]) ([])), (true, .cel (.slice ad10 (([enc z]).length) cp11) (([enc z]).length) vs12), (true, .cel (.slice ad13 (([]).length) cp14) (([]).length) us15), (true, .bys (vs12 ++ us15 ++ ([])) (([enc z]) ++ ([]) ++ ([]))), (true, .bys vs12 ([enc z])), (true, .bys us15 ([])), (true, .own (.slice ad24 (([]).length) cp25) 34 1 (([]).length) vs26), (true, .own (.slice ad27 (([]).length) cp28) 34 1 (([]).length) us29), (true, .bysO G30 (vs26 ++ us29 ++ ([] ++ [.slice ad31 p23.length cp32])) (([]) ++ ([]) ++ ([] ++ [p23])))], Z, noX⟩ [(6, true, .int .i64 0), (9, true, .int .i64 z)] [(true, g17, 24, [.slice ad10 (([enc z]).length) cp11, .slice ad13 (([]).length) cp14]), (true, g34, 24, [.slice ad24 (([]).length) cp25, .slice ad27 (([]).length) cp28])] ac _ := hs.re ⟨rfl, rfl, trivial⟩
  refine wp_region_lit ?_
  refine lstep (wpO_plain rfl (op_move hs none rfl rfl rfl rfl fun ac hs => ?_))
  refine lstep (wpO_plain rfl (op_assign hs none rfl rfl rfl rfl fun ac hs => ?_))
  refine wpList_nil ?_
  refine then_n ?_
  refine wp_ret ?_
  exact bodyPost_ret (res1 rfl (rv_t hs rfl)) hs.defers ⟨(), rfl, hs.bel rfl, okl0⟩
theorem numbers_law (x y : Int) (gx : -2147483648 ≤ x ∧ x < 2147483648) (gy : -2147483648 ≤ y ∧ y < 2147483648) (w0 : World) (Z : Nat → Prop) : Calls Try.prog 6 #[.int .i32 x, .int .i32 y] w0 fun e w' => Ret w0 Z (ρ := Unit) (fun r => .bool true) (fun r => []) e w' := by
  refine enterS (n := 98) (args := [.int .i32 x, .int .i32 y]) (S := []) (Z := Z) Try.func6 rfl rfl (Nat.le_of_ble_eq_true rfl) sok0 rfl fun ac hs => ?_
  refine wp_seq ?_
  refine wp_region_lit ?_
  refine lstep (wpO_plain rfl (op_assign hs none rfl rfl rfl rfl fun ac hs => ?_))
  refine wpList_nil ?_
  refine then_n ?_
  refine wp_seq ?_
  refine wp_region_lit ?_
  refine lstep (wpO_plain rfl (op_move hs none rfl rfl rfl rfl fun ac hs => ?_))
  refine lstep (wpO_plain rfl (op_convert hs none (v := .int .i64 x) rfl rfl rfl (conv_I Try.underlying21 Try.underlying2 gx.1 gx.2) rfl fun ac hs => ?_))
  refine lstep (wpO_plain rfl (op_move hs none rfl rfl rfl rfl fun ac hs => ?_))
  refine lstep (wpO_plain rfl (op_convert hs none (v := .int .i64 y) rfl rfl rfl (conv_I Try.underlying21 Try.underlying2 gy.1 gy.2) rfl fun ac hs => ?_))
  refine lstep (wpO_plain rfl (op_assign hs none rfl rfl rfl rfl fun ac hs => ?_))
  refine lstep (wpO_plain rfl (op_assign hs none rfl rfl rfl rfl fun ac hs => ?_))
  refine wpList_nil ?_
  refine then_n ?_
  refine wp_seq ?_
  refine wp_seq ?_
  by_cases hq1 : x = -2147483648
  · skip
    replace hs : St 98 ⟨w0, [], [], Z, noX⟩ [(4, true, .bool false), (5, true, .int .i64 x), (6, true, .int .i64 y)] [] ac _ := hs.re ⟨rfl, rfl, rfl, trivial⟩
    refine wp_region_lit ?_
    refine lstep (wpO_plain rfl (op_move hs none rfl rfl rfl rfl fun ac hs => ?_))
    refine lstep (wpO_plain rfl (op_bin hs none (v := .bool true) rfl rfl rfl rfl (fun _ => rfl) (fun w => dT hq1 (bin_eqlI (x := x) (y := -2147483648) w)) rfl fun ac hs => ?_))
    refine lstep (wpO_plain rfl (op_move hs none rfl rfl rfl rfl fun ac hs => ?_))
    refine lstep (wpO_out hs none rfl rfl (.inl rfl) rfl rfl fun ac hs => ?_)
    refine lstep (wpO_out hs none rfl rfl (.inl rfl) rfl rfl fun ac hs => ?_)
    refine lstep (wpO_plain rfl (op_pickT hs none rfl rfl rfl rfl rfl fun ac hs => ?_))
    refine wpList_nil ?_
    refine then_n ?_
    refine wp_cond_true (hs.ev rfl) ?_
    refine wp_seq ?_
    refine wp_region_lit ?_
    refine lstep (wpO_plain rfl (op_callV (F := 9) (ρ := Unit) hs none none (v := fun r => .bool true) (E := fun r => []) (j := 0) rfl rfl rfl rfl (Try.call9 _) (fun hs => alive_c _ _) (fun _ => rfl) (fun _ => rfl) rfl rfl fun _ ac w hs => ?_))
    refine lstep (wpO_plain rfl (op_assign hs none rfl rfl rfl rfl fun ac hs => ?_))
    refine wpList_nil ?_
    refine then_n ?_
    refine wp_ret ?_
    refine then_r ?_
    exact bodyPost_ret (res1 rfl (rv_t hs rfl)) hs.defers ⟨(), rfl, hs.bel rfl, okl0⟩
  · skip
    by_cases hq2 : y = -2147483648
    · skip
      replace hs : St 98 ⟨w0, [], [], Z, noX⟩ [(4, true, .bool false), (5, true, .int .i64 x), (6, true, .int .i64 y)] [] ac _ := hs.re ⟨rfl, rfl, rfl, trivial⟩
      refine wp_region_lit ?_
      refine lstep (wpO_plain rfl (op_move hs none rfl rfl rfl rfl fun ac hs => ?_))
      refine lstep (wpO_plain rfl (op_bin hs none (v := .bool false) rfl rfl rfl rfl (fun _ => rfl) (fun w => dF hq1 (bin_eqlI (x := x) (y := -2147483648) w)) rfl fun ac hs => ?_))
      refine lstep (wpO_plain rfl (op_move hs none rfl rfl rfl rfl fun ac hs => ?_))
      refine lstep (wpO_in hs rfl rfl rfl (op_move hs none rfl rfl rfl rfl fun ac hs => ?_))
      refine lstep (wpO_in hs rfl rfl rfl (op_bin hs none (v := .bool true) rfl rfl rfl rfl (fun _ => rfl) (fun w => dT hq2 (bin_eqlI (x := y) (y := -2147483648) w)) rfl fun ac hs => ?_))
      refine lstep (wpO_plain rfl (op_pickF hs none rfl rfl rfl rfl rfl fun ac hs => ?_))
      refine wpList_nil ?_
      refine then_n ?_
      refine wp_cond_true (hs.ev rfl) ?_
      refine wp_seq ?_
      replace hs : St 98 ⟨w0, [], [], Z, noX⟩ [(4, true, .bool false), (5, true, .int .i64 x), (6, true, .int .i64 y)] [] ac _ := hs.re ⟨rfl, rfl, rfl, trivial⟩
      refine wp_region_lit ?_
      refine lstep (wpO_plain rfl (op_callV (F := 9) (ρ := Unit) hs none none (v := fun r => .bool true) (E := fun r => []) (j := 0) rfl rfl rfl rfl (Try.call9 _) (fun hs => alive_c _ _) (fun _ => rfl) (fun _ => rfl) rfl rfl fun _ ac w hs => ?_))
      refine lstep (wpO_plain rfl (op_assign hs none rfl rfl rfl rfl fun ac hs => ?_))
      refine wpList_nil ?_
      refine then_n ?_
      refine wp_ret ?_
      refine then_r ?_
      exact bodyPost_ret (res1 rfl (rv_t hs rfl)) hs.defers ⟨(), rfl, hs.bel rfl, okl0⟩
    · skip
      have hx : -2147483648 < x ∧ x < 2147483648 := by omega
      have hy : -2147483648 < y ∧ y < 2147483648 := by omega
      replace hs : St 98 ⟨w0, [], [], Z, noX⟩ [(4, true, .bool false), (5, true, .int .i64 x), (6, true, .int .i64 y)] [] ac _ := hs.re ⟨rfl, rfl, rfl, trivial⟩
      refine wp_region_lit ?_
      refine lstep (wpO_plain rfl (op_move hs none rfl rfl rfl rfl fun ac hs => ?_))
      refine lstep (wpO_plain rfl (op_bin hs none (v := .bool false) rfl rfl rfl rfl (fun _ => rfl) (fun w => dF hq1 (bin_eqlI (x := x) (y := -2147483648) w)) rfl fun ac hs => ?_))
      refine lstep (wpO_plain rfl (op_move hs none rfl rfl rfl rfl fun ac hs => ?_))
      refine lstep (wpO_in hs rfl rfl rfl (op_move hs none rfl rfl rfl rfl fun ac hs => ?_))
      refine lstep (wpO_in hs rfl rfl rfl (op_bin hs none (v := .bool false) rfl rfl rfl rfl (fun _ => rfl) (fun w => dF hq2 (bin_eqlI (x := y) (y := -2147483648) w)) rfl fun ac hs => ?_))
      refine lstep (wpO_plain rfl (op_pickF hs none rfl rfl rfl rfl rfl fun ac hs => ?_))
      refine wpList_nil ?_
      refine then_n ?_
      refine wp_cond_false (hs.ev rfl) ?_
      refine wp_skip ?_
      refine then_n ?_
      refine wp_seq ?_
      replace hs : St 98 ⟨w0, [], [], Z, noX⟩ [(4, true, .bool false), (5, true, .int .i64 x), (6, true, .int .i64 y)] [] ac _ := hs.re ⟨rfl, rfl, rfl, trivial⟩
      refine wp_region_lit ?_
      refine lstep (wpO_plain rfl (op_move hs none rfl rfl rfl rfl fun ac hs => ?_))
      refine lstep (wpO_plain rfl (op_move hs none rfl rfl rfl rfl fun ac hs => ?_))
      obtain ⟨z3, hz3⟩ : ∃ z0, (binL 147 x y).1 = z0 := ⟨_, rfl⟩
      have fz3 := b_147 hz3
      refine lstep (wpO_plain rfl (op_callV (F := 18) (ρ := Unit) hs none none (v := fun r => .int .i64 z3) (E := fun r => []) (j := 0) rfl rfl rfl rfl (Try.call18 _) (fun hs => two_c 147 x y z3 rfl hx hy hz3 _ _) (fun _ => rfl) (fun _ => rfl) rfl rfl fun _ ac w hs => ?_))
      refine lstep (wpO_plain rfl (op_move hs none rfl rfl rfl rfl fun ac hs => ?_))
      refine lstep (wpO_plain rfl (op_move hs none rfl rfl rfl rfl fun ac hs => ?_))
      obtain ⟨z4, hz4⟩ : ∃ z0, (binL 148 x y).1 = z0 := ⟨_, rfl⟩
      have fz4 := b_148 hz4
      refine lstep (wpO_plain rfl (op_callV (F := 18) (ρ := Unit) hs none none (v := fun r => .int .i64 z4) (E := fun r => []) (j := 0) rfl rfl rfl rfl (Try.call18 _) (fun hs => two_c 148 x y z4 rfl hx hy hz4 _ _) (fun _ => rfl) (fun _ => rfl) rfl rfl fun _ ac w hs => ?_))
      refine lstep (wpO_plain rfl (op_assign hs none rfl rfl rfl rfl fun ac hs => ?_))
      refine lstep (wpO_plain rfl (op_assign hs none rfl rfl rfl rfl fun ac hs => ?_))
      refine wpList_nil ?_
      refine then_n ?_
      refine wp_seq ?_
      replace hs : St 98 ⟨w0, [], [], Z, noX⟩ [(4, true, .bool false), (5, true, .int .i64 x), (6, true, .int .i64 y), (7, true, .int .i64 z3), (8, true, .int .i64 z4)] [] ac _ := hs.re ⟨rfl, rfl, rfl, rfl, rfl, trivial⟩
      refine wp_region_lit ?_
      refine lstep (wpO_plain rfl (op_move hs none rfl rfl rfl rfl fun ac hs => ?_))
      refine lstep (wpO_plain rfl (op_move hs none rfl rfl rfl rfl fun ac hs => ?_))
      obtain ⟨z5, hz5⟩ : ∃ z0, (binL 159 x y).1 = z0 := ⟨_, rfl⟩
      have fz5 := b_159 hz5
      refine lstep (wpO_plain rfl (op_callV (F := 18) (ρ := Unit) hs none none (v := fun r => .int .i64 z5) (E := fun r => []) (j := 0) rfl rfl rfl rfl (Try.call18 _) (fun hs => two_c 159 x y z5 rfl hx hy hz5 _ _) (fun _ => rfl) (fun _ => rfl) rfl rfl fun _ ac w hs => ?_))
      refine lstep (wpO_plain rfl (op_move hs none rfl rfl rfl rfl fun ac hs => ?_))
      refine lstep (wpO_plain rfl (op_move hs none rfl rfl rfl rfl fun ac hs => ?_))
      obtain ⟨z6, hz6⟩ : ∃ z0, (binL 160 x y).1 = z0 := ⟨_, rfl⟩
      have fz6 := b_160 hz6
      refine lstep (wpO_plain rfl (op_callV (F := 18) (ρ := Unit) hs none none (v := fun r => .int .i64 z6) (E := fun r => []) (j := 0) rfl rfl rfl rfl (Try.call18 _) (fun hs => two_c 160 x y z6 rfl hx hy hz6 _ _) (fun _ => rfl) (fun _ => rfl) rfl rfl fun _ ac w hs => ?_))
      refine lstep (wpO_plain rfl (op_move hs none rfl rfl rfl rfl fun ac hs => ?_))
      refine lstep (wpO_plain rfl (op_move hs none rfl rfl rfl rfl fun ac hs => ?_))
      obtain ⟨z7, hz7⟩ : ∃ z0, (binL 156 x y).1 = z0 := ⟨_, rfl⟩
      have fz7 := b_156 hz7
      refine lstep (wpO_plain rfl (op_callV (F := 18) (ρ := Unit) hs none none (v := fun r => .int .i64 z7) (E := fun r => []) (j := 0) rfl rfl rfl rfl (Try.call18 _) (fun hs => two_c 156 x y z7 rfl hx hy hz7 _ _) (fun _ => rfl) (fun _ => rfl) rfl rfl fun _ ac w hs => ?_))
      refine lstep (wpO_plain rfl (op_assign hs none rfl rfl rfl rfl fun ac hs => ?_))
      refine lstep (wpO_plain rfl (op_assign hs none rfl rfl rfl rfl fun ac hs => ?_))
      refine lstep (wpO_plain rfl (op_assign hs none rfl rfl rfl rfl fun ac hs => ?_))
      refine wpList_nil ?_
      refine then_n ?_
      refine wp_seq ?_
      replace hs : St 98 ⟨w0, [], [], Z, noX⟩ [(4, true, .bool false), (5, true, .int .i64 x), (6, true, .int .i64 y), (7, true, .int .i64 z3), (8, true, .int .i64 z4), (9, true, .int .i64 z5), (10, true, .int .i64 z6), (11, true, .int .i64 z7)] [] ac _ := hs.re ⟨rfl, rfl, rfl, rfl, rfl, rfl, rfl, rfl, trivial⟩
      refine wp_region_lit ?_
      refine lstep (wpO_plain rfl (op_callV (F := 9) (ρ := Unit) hs none none (v := fun r => .bool true) (E := fun r => []) (j := 0) rfl rfl rfl rfl (Try.call9 _) (fun hs => alive_c _ _) (fun _ => rfl) (fun _ => rfl) rfl rfl fun _ ac w hs => ?_))
      refine lstep (wpO_plain rfl (op_move hs none rfl rfl rfl rfl fun ac hs => ?_))
      refine lstep (wpO_in hs rfl rfl rfl (op_move hs none rfl rfl rfl rfl fun ac hs => ?_))
      refine lstep (wpO_in hs rfl rfl rfl (op_move hs none rfl rfl rfl rfl fun ac hs => ?_))
      refine lstep (wpO_in hs rfl rfl rfl (op_move hs none rfl rfl rfl rfl fun ac hs => ?_))
      refine lstep (wpO_in hs rfl rfl rfl (op_bin hs none (v := .int .i64 (x + y)) rfl rfl rfl rfl (fun _ => rfl) (bin_addI (x := x) (y := y) (z := x + y) rfl (by omega) (by omega)) rfl fun ac hs => ?_))
      refine lstep (wpO_in hs rfl rfl rfl (op_bin hs none (v := .bool true) rfl rfl rfl rfl (fun _ => rfl) (fun w => dT (show z3 = x + y by omega) (bin_eqlI (x := z3) (y := x + y) w)) rfl fun ac hs => ?_))
      refine lstep (wpO_plain rfl (op_pickT hs none rfl rfl rfl rfl rfl fun ac hs => ?_))
      refine lstep (wpO_plain rfl (op_move hs none rfl rfl rfl rfl fun ac hs => ?_))
      refine lstep (wpO_in hs rfl rfl rfl (op_move hs none rfl rfl rfl rfl fun ac hs => ?_))
      refine lstep (wpO_in hs rfl rfl rfl (op_move hs none rfl rfl rfl rfl fun ac hs => ?_))
      refine lstep (wpO_in hs rfl rfl rfl (op_move hs none rfl rfl rfl rfl fun ac hs => ?_))
      refine lstep (wpO_in hs rfl rfl rfl (op_bin hs none (v := .int .i64 (x - y)) rfl rfl rfl rfl (fun _ => rfl) (bin_subI (x := x) (y := y) (z := x - y) rfl (by omega) (by omega)) rfl fun ac hs => ?_))
      refine lstep (wpO_in hs rfl rfl rfl (op_bin hs none (v := .bool true) rfl rfl rfl rfl (fun _ => rfl) (fun w => dT (show z4 = x - y by omega) (bin_eqlI (x := z4) (y := x - y) w)) rfl fun ac hs => ?_))
      refine lstep (wpO_plain rfl (op_pickT hs none rfl rfl rfl rfl rfl fun ac hs => ?_))
      refine lstep (wpO_plain rfl (op_move hs none rfl rfl rfl rfl fun ac hs => ?_))
      refine lstep (wpO_in hs rfl rfl rfl (op_move hs none rfl rfl rfl rfl fun ac hs => ?_))
      refine lstep (wpO_in hs rfl rfl rfl (op_move hs none rfl rfl rfl rfl fun ac hs => ?_))
      obtain ⟨z8, hz8⟩ : ∃ z0, (binL 163 x y).1 = z0 := ⟨_, rfl⟩
      have fz8 := b_163 hz8
      refine lstep (wpO_in hs rfl rfl rfl (op_callV (F := 18) (ρ := Unit) hs none none (v := fun r => .int .i64 z8) (E := fun r => []) (j := 0) rfl rfl rfl rfl (Try.call18 _) (fun hs => two_c 163 x y z8 rfl hx hy hz8 _ _) (fun _ => rfl) (fun _ => rfl) rfl rfl fun _ ac w hs => ?_))
      refine lstep (wpO_in hs rfl rfl rfl (op_move hs none rfl rfl rfl rfl fun ac hs => ?_))
      refine lstep (wpO_in hs rfl rfl rfl (op_move hs none rfl rfl rfl rfl fun ac hs => ?_))
      obtain ⟨z9, hz9⟩ : ∃ z0, (binL 164 x y).1 = z0 := ⟨_, rfl⟩
      have fz9 := b_164 hz9
      refine lstep (wpO_in hs rfl rfl rfl (op_callV (F := 18) (ρ := Unit) hs none none (v := fun r => .int .i64 z9) (E := fun r => []) (j := 0) rfl rfl rfl rfl (Try.call18 _) (fun hs => two_c 164 x y z9 rfl hx hy hz9 _ _) (fun _ => rfl) (fun _ => rfl) rfl rfl fun _ ac w hs => ?_))
      refine lstep (wpO_in hs rfl rfl rfl (op_bin hs none (v := .int .i64 (z8 + z9)) rfl rfl rfl rfl (fun _ => rfl) (bin_addI (x := z8) (y := z9) (z := z8 + z9) rfl (by omega) (by omega)) rfl fun ac hs => ?_))
      refine lstep (wpO_in hs rfl rfl rfl (op_move hs none rfl rfl rfl rfl fun ac hs => ?_))
      refine lstep (wpO_in hs rfl rfl rfl (op_move hs none rfl rfl rfl rfl fun ac hs => ?_))
      refine lstep (wpO_in hs rfl rfl rfl (op_bin hs none (v := .int .i64 (x + y)) rfl rfl rfl rfl (fun _ => rfl) (bin_addI (x := x) (y := y) (z := x + y) rfl (by omega) (by omega)) rfl fun ac hs => ?_))
      refine lstep (wpO_in hs rfl rfl rfl (op_bin hs none (v := .bool true) rfl rfl rfl rfl (fun _ => rfl) (fun w => dT (show z8 + z9 = x + y by omega) (bin_eqlI (x := z8 + z9) (y := x + y) w)) rfl fun ac hs => ?_))
      refine lstep (wpO_plain rfl (op_pickT hs none rfl rfl rfl rfl rfl fun ac hs => ?_))
      refine lstep (wpO_plain rfl (op_move hs none rfl rfl rfl rfl fun ac hs => ?_))
      refine lstep (wpO_in hs rfl rfl rfl (op_move hs none rfl rfl rfl rfl fun ac hs => ?_))
      refine lstep (wpO_in hs rfl rfl rfl (op_move hs none rfl rfl rfl rfl fun ac hs => ?_))
      refine lstep (wpO_in hs rfl rfl rfl (op_bin hs none (v := .int .i64 (z5 + z6)) rfl rfl rfl rfl (fun _ => rfl) (bin_addI (x := z5) (y := z6) (z := z5 + z6) rfl (by omega) (by omega)) rfl fun ac hs => ?_))
      refine lstep (wpO_in hs rfl rfl rfl (op_move hs none rfl rfl rfl rfl fun ac hs => ?_))
      refine lstep (wpO_in hs rfl rfl rfl (op_bin hs none (v := .int .i64 (z5 + z6 + z7)) rfl rfl rfl rfl (fun _ => rfl) (bin_addI (x := z5 + z6) (y := z7) (z := z5 + z6 + z7) rfl (by omega) (by omega)) rfl fun ac hs => ?_))
      refine lstep (wpO_in hs rfl rfl rfl (op_bin hs none (v := .bool true) rfl rfl rfl rfl (fun _ => rfl) (fun w => dT (show z5 + z6 + z7 = 1 by omega) (bin_eqlI (x := z5 + z6 + z7) (y := 1) w)) rfl fun ac hs => ?_))
      refine lstep (wpO_plain rfl (op_pickT hs none rfl rfl rfl rfl rfl fun ac hs => ?_))
      refine lstep (wpO_plain rfl (op_move hs none rfl rfl rfl rfl fun ac hs => ?_))
      refine lstep (wpO_in hs rfl rfl rfl (op_move hs none rfl rfl rfl rfl fun ac hs => ?_))
      refine lstep (wpO_in hs rfl rfl rfl (op_move hs none rfl rfl rfl rfl fun ac hs => ?_))
      obtain ⟨z10, hz10⟩ : ∃ z0, (binL 162 x y).1 = z0 := ⟨_, rfl⟩
      have fz10 := b_162 hz10
      refine lstep (wpO_in hs rfl rfl rfl (op_callV (F := 18) (ρ := Unit) hs none none (v := fun r => .int .i64 z10) (E := fun r => []) (j := 0) rfl rfl rfl rfl (Try.call18 _) (fun hs => two_c 162 x y z10 rfl hx hy hz10 _ _) (fun _ => rfl) (fun _ => rfl) rfl rfl fun _ ac w hs => ?_))
      refine lstep (wpO_in hs rfl rfl rfl (op_move hs none rfl rfl rfl rfl fun ac hs => ?_))
      refine lstep (wpO_in hs rfl rfl rfl (op_bin hs none (v := .int .i64 (1 - z5)) rfl rfl rfl rfl (fun _ => rfl) (bin_subI (x := 1) (y := z5) (z := 1 - z5) rfl (by omega) (by omega)) rfl fun ac hs => ?_))
      refine lstep (wpO_in hs rfl rfl rfl (op_bin hs none (v := .bool true) rfl rfl rfl rfl (fun _ => rfl) (fun w => dT (show z10 = 1 - z5 by omega) (bin_eqlI (x := z10) (y := 1 - z5) w)) rfl fun ac hs => ?_))
      refine lstep (wpO_plain rfl (op_pickT hs none rfl rfl rfl rfl rfl fun ac hs => ?_))
      refine lstep (wpO_plain rfl (op_move hs none rfl rfl rfl rfl fun ac hs => ?_))
      refine lstep (wpO_in hs rfl rfl rfl (op_move hs none rfl rfl rfl rfl fun ac hs => ?_))
      refine lstep (wpO_in hs rfl rfl rfl (op_move hs none rfl rfl rfl rfl fun ac hs => ?_))
      obtain ⟨z11, hz11⟩ : ∃ z0, (binL 161 x y).1 = z0 := ⟨_, rfl⟩
      have fz11 := b_161 hz11
      refine lstep (wpO_in hs rfl rfl rfl (op_callV (F := 18) (ρ := Unit) hs none none (v := fun r => .int .i64 z11) (E := fun r => []) (j := 0) rfl rfl rfl rfl (Try.call18 _) (fun hs => two_c 161 x y z11 rfl hx hy hz11 _ _) (fun _ => rfl) (fun _ => rfl) rfl rfl fun _ ac w hs => ?_))
      refine lstep (wpO_in hs rfl rfl rfl (op_move hs none rfl rfl rfl rfl fun ac hs => ?_))
      refine lstep (wpO_in hs rfl rfl rfl (op_bin hs none (v := .int .i64 (1 - z6)) rfl rfl rfl rfl (fun _ => rfl) (bin_subI (x := 1) (y := z6) (z := 1 - z6) rfl (by omega) (by omega)) rfl fun ac hs => ?_))
      refine lstep (wpO_in hs rfl rfl rfl (op_bin hs none (v := .bool true) rfl rfl rfl rfl (fun _ => rfl) (fun w => dT (show z11 = 1 - z6 by omega) (bin_eqlI (x := z11) (y := 1 - z6) w)) rfl fun ac hs => ?_))
      refine lstep (wpO_plain rfl (op_pickT hs none rfl rfl rfl rfl rfl fun ac hs => ?_))
      refine lstep (wpO_plain rfl (op_move hs none rfl rfl rfl rfl fun ac hs => ?_))
      refine lstep (wpO_in hs rfl rfl rfl (op_move hs none rfl rfl rfl rfl fun ac hs => ?_))
      refine lstep (wpO_in hs rfl rfl rfl (op_move hs none rfl rfl rfl rfl fun ac hs => ?_))
      obtain ⟨z12, hz12⟩ : ∃ z0, (binL 158 x y).1 = z0 := ⟨_, rfl⟩
      have fz12 := b_158 hz12
      refine lstep (wpO_in hs rfl rfl rfl (op_callV (F := 18) (ρ := Unit) hs none none (v := fun r => .int .i64 z12) (E := fun r => []) (j := 0) rfl rfl rfl rfl (Try.call18 _) (fun hs => two_c 158 x y z12 rfl hx hy hz12 _ _) (fun _ => rfl) (fun _ => rfl) rfl rfl fun _ ac w hs => ?_))
      refine lstep (wpO_in hs rfl rfl rfl (op_move hs none rfl rfl rfl rfl fun ac hs => ?_))
      refine lstep (wpO_in hs rfl rfl rfl (op_bin hs none (v := .int .i64 (1 - z7)) rfl rfl rfl rfl (fun _ => rfl) (bin_subI (x := 1) (y := z7) (z := 1 - z7) rfl (by omega) (by omega)) rfl fun ac hs => ?_))
      refine lstep (wpO_in hs rfl rfl rfl (op_bin hs none (v := .bool true) rfl rfl rfl rfl (fun _ => rfl) (fun w => dT (show z12 = 1 - z7 by omega) (bin_eqlI (x := z12) (y := 1 - z7) w)) rfl fun ac hs => ?_))
      refine lstep (wpO_plain rfl (op_pickT hs none rfl rfl rfl rfl rfl fun ac hs => ?_))
      refine lstep (wpO_plain rfl (op_assign hs none rfl rfl rfl rfl fun ac hs => ?_))
      refine wpList_nil ?_
      refine then_n ?_
      refine wp_ret ?_
      exact bodyPost_ret (res1 rfl (rv_t hs rfl)) hs.defers ⟨(), rfl, hs.bel rfl, okl0⟩
end Go.Proofs.Ytikkhkjndbicgaa

/- Arguments opened, and read again behind a call that writes nothing that was there: lemmas of whatever program. -/
namespace Go.Proofs.Ytikkhkjndbicgaa
open Go.ChangeShapes Go.WideShapes Go.ChangeAt Go.RowKit
section
variable {H : Type} {enc : TypeId × Value → H} {P : Program}
theorem trodAll_below (hl : laidOutB P = true) {W W' : World} (hb : Below W.heap.size W W') : ∀ (ts : List TypeId) (vs : List Value) (ds : List (DataW H)) (ps : List MemPlace),
    ts.all (fun t => P.readableRec t && decide (t < P.types.size)) = true → DataW.TrodAll enc P W 0 (fun _ => true) true ts vs ds ps → DataW.TrodAll enc P W' 0 (fun b => decide (b < W.heap.size)) true ts vs ds ps := by
  intro ts
  induction ts with
  | nil =>
    intro vs ds ps _ h
    obtain ⟨rfl, rfl, rfl⟩ := trodAll_nil h
    exact trodAll_mk0
  | cons t ts ih =>
    intro vs ds ps hts h
    obtain ⟨v, vs0, d, ds0, p, q, rfl, rfl, rfl, h0, r0⟩ := trodAll_cons h
    simp only [List.all_cons, Bool.and_eq_true, decide_eq_true_eq] at hts
    obtain ⟨⟨hr, ht⟩, hts⟩ := hts
    have lt0 : ∀ x ∈ p, x.block < W.heap.size := by obtain ⟨m, hm⟩ := h0; exact DataW.trod_lt m _ _ _ hm
    exact trodAll_cons_mk (Below.trod hl hr ht h0 hb lt0) (ih _ _ _ hts r0)
end
def RdN (w : World) (a : Option Addr) (l : List UInt8) : Prop :=
  l.length ≠ 0 → ∃ b off, a = some ⟨b, off, none⟩ ∧ ∀ k, k < l.length → w.cell? ⟨b, off + k, none⟩ = some (.int .u8 ((l.getD k 0).toNat : Int))
end Go.Proofs.Ytikkhkjndbicgaa

/- Arguments that are natural numbers of 32 bits, whole numbers of 64 bits. -/
namespace Go.Proofs.Ytikkhkjndbicgaa
open Go.ChangeShapes Go.WideShapes Go.ChangeAt Go.RowKit
end Go.Proofs.Ytikkhkjndbicgaa
