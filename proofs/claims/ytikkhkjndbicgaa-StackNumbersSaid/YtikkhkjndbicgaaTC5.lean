/- Several texts in one, what this law needs of them: StkC. -/
import Derived.Test.YtikkhkjndbicgaaTC4

/- Stacks: each operation. -/
namespace Go.Proofs.Ytikkhkjndbicgaa
open Go.RowKit
set_option maxRecDepth 10000
set_option maxHeartbeats 1000000
theorem moves_c (gm : Nat) (am : Option Addr) (cm : Nat) (vs : List Value) (aa : Option Addr) (ca : Nat) (us : List Value) (G : Nat → Prop) (xs : List Value) (ts : BL) (ks js : BL) (er : Nat) (op : Nat) (q : Bool) (k1 j1 : BL) (e1 : Nat) (ok : OkN 2900 ks) (oj : OkN 2900 js) (hp : movL op ks js er = (q, k1, j1, e1)) (w0 : World) (Z X : Nat → Prop) (hm : Mem ⟨w0, [], [(true, .own (.slice am ks.length cm) 34 1 ks.length vs), (true, .own (.slice aa js.length ca) 34 1 js.length us), (true, .bysO G (vs ++ us ++ xs) (ks ++ js ++ ts))], Z, X⟩ [(true, gm, 61, [.slice am ks.length cm, .slice aa js.length ca, .int .i64 ((er : Nat) : Int)])] w0) : Calls Try.prog 27 #[.pointer (some ⟨gm, 0, none⟩), .int .u8 ((op : Nat) : Int)] w0 fun e w' => PostX w0 Z X (ρ := M2) (fun r => .bool q) (fun r => [(true, gm, 61, [.slice r.a k1.length r.c, .slice r.b j1.length r.d, .int .i64 ((e1 : Nat) : Int)])]) (fun r => [(true, .own (.slice r.a k1.length r.c) 34 1 k1.length r.vs), (true, .own (.slice r.b j1.length r.d) 34 1 j1.length r.us), (true, .bysO r.G (r.vs ++ r.us ++ xs) (k1 ++ j1 ++ ts))]) e w' := by
  have hk8 : ks.length ≤ 2900 := ok.1
  have hj8 : js.length ≤ 2900 := oj.1
  refine enterX (n := 90) (args := [.pointer (some ⟨gm, 0, none⟩), .int .u8 ((op : Nat) : Int)]) Try.func27 rfl rfl (Nat.le_of_ble_eq_true rfl) hm fun ac hs => ?_
  have hv := hs.ownLen 0 rfl
  have hu := hs.ownLen 1 rfl
  refine wp_seq ?_
  refine wp_region_lit ?_
  refine lstep (wpO_plain rfl (op_assign hs none rfl rfl rfl rfl fun ac hs => ?_))
  refine wpList_nil ?_
  refine then_n ?_
  refine wp_seq ?_
  refine wp_seq ?_
  refine wp_region_lit ?_
  refine lstep (wpO_plain rfl (op_move hs none rfl rfl rfl rfl fun ac hs => ?_))
  refine wpList_nil ?_
  refine then_n ?_
  refine wp_block ?_
  refine wp_seq ?_
  refine wp_region_lit ?_
  refine lstep (wpO_plain rfl (op_bin hs none (v := .bool (decide (op = 97))) rfl rfl rfl rfl (fun _ => rfl) (bin_eqlN (x := op) (y := 97)) rfl fun ac hs => ?_))
  refine lstep (wpO_plain rfl (op_assign hs none rfl rfl rfl rfl fun ac hs => ?_))
  refine wpList_nil ?_
  refine then_n ?_
  refine wp_cond_split (hs.ev rfl) (fun hc => ?_) (fun hc => ?_)
  · skip
    have hp1 := of_decide_eq_true hc
    refine wp_skip ?_
    refine blk_n ?_
    refine then_n ?_
    refine wp_seq ?_
    refine wp_region_lit ?_
    refine lstep (wpO_plain rfl (op_assign hs none rfl rfl rfl rfl fun ac hs => ?_))
    refine wpList_nil ?_
    refine then_n ?_
    refine wp_ret ?_
    have HS := hs
    have h0 := hp
    unfold movL at h0
    rw [if_pos hp1] at h0
    obtain ⟨hq, hk, hj, he⟩ := inj4 h0
    subst hq
    subst hk
    subst hj
    subst he
    have hs := HS
    exact bodyPost_ret (res1 rfl (rv_t hs rfl)) hs.defers ⟨⟨am, cm, vs, aa, ca, us, G⟩, rfl, ((hs.selS [0, 1, 2] rfl (by decide)).selB [0] rfl (by decide)).mem⟩
  · skip
    have hp2 := of_decide_eq_false hc
    refine wp_seq ?_
    refine wp_region_lit ?_
    refine lstep (wpO_plain rfl (op_bin hs none (v := .bool (decide (op = 107))) rfl rfl rfl rfl (fun _ => rfl) (bin_eqlN (x := op) (y := 107)) rfl fun ac hs => ?_))
    refine lstep (wpO_plain rfl (op_assign hs none rfl rfl rfl rfl fun ac hs => ?_))
    refine wpList_nil ?_
    refine then_n ?_
    refine wp_cond_split (hs.ev rfl) (fun hc => ?_) (fun hc => ?_)
    · skip
      have hp3 := of_decide_eq_true hc
      refine wp_seq ?_
      replace hs : St 90 ⟨w0, [], [(true, .own (.slice am ks.length cm) 34 1 ks.length vs), (true, .own (.slice aa js.length ca) 34 1 js.length us), (true, .bysO G (vs ++ us ++ xs) (ks ++ js ++ ts))], Z, X⟩ [(0, true, .pointer (some ⟨gm, 0, none⟩)), (4, true, .bool false)] [(true, gm, 61, [.slice am ks.length cm, .slice aa js.length ca, .int .i64 ((er : Nat) : Int)])] ac _ := hs.re ⟨rfl, rfl, trivial⟩
      refine wp_region_lit ?_
      refine lstep (wpO_plain rfl (op_move hs none rfl rfl rfl rfl fun ac hs => ?_))
      obtain ⟨p4, ks5, e6, hks5⟩ : ∃ z0 z1 z2, popL ks er = (z0, z1, z2) := ⟨_, _, _, rfl⟩
      obtain ⟨oks5, lp4⟩ := pop_ok ok hks5
      replace lp4 : p4.length ≤ 8000 := Nat.le_trans lp4 (by decide)
      refine lstep (wpO_plain rfl (op_callX (F := 39) (ρ := M1x) hs none none [0] [0, 1, 2] (v := fun r => .slice r.x p4.length r.y) (S1 := [(true, .own (.slice am ks.length cm) 34 1 ks.length vs), (true, .own (.slice aa js.length ca) 34 1 js.length us), (true, .bysO G (vs ++ us ++ xs) (ks ++ js ++ ts))]) (bs1 := [(true, gm, 61, [.slice am ks.length cm, .slice aa js.length ca, .int .i64 ((er : Nat) : Int)])]) (E := fun r => [(true, .own (.slice r.a ks5.length r.c) 34 1 ks5.length r.vs), (true, .own (.slice aa js.length ca) 34 1 js.length us), (true, .bysO G (r.vs ++ us ++ (xs ++ [.slice r.x p4.length r.y])) (ks5 ++ js ++ (ts ++ [p4])))]) (E1 := fun r => [(true, .own (.slice r.a ks5.length r.c) 34 1 ks5.length r.vs), (true, .own (.slice aa js.length ca) 34 1 js.length us), (true, .bysO G (r.vs ++ us ++ (xs ++ [.slice r.x p4.length r.y])) (ks5 ++ js ++ (ts ++ [p4])))]) (E2 := fun r => []) (bfA := fun r => [(true, gm, 61, [.slice r.a ks5.length r.c, .slice aa js.length ca, .int .i64 ((e6 : Nat) : Int)])]) (bf := fun r => [(true, gm, 61, [.slice r.a ks5.length r.c, .slice aa js.length ca, .int .i64 ((e6 : Nat) : Int)])]) (bf2 := fun r => []) rfl rfl rfl rfl rfl (Try.call39 _) rfl rfl (by decide) (by decide) (fun Z X hm => pop_c gm am cm vs aa ca us G xs ts ks js er p4 ks5 e6 (ok.mono (by decide)) hks5 _ _ _ hm) (fun _ => rfl) (fun _ => rfl) (fun _ => rfl) (fun _ => rfl) (fun _ => rfl) rfl fun ⟨ad7, cp8, vs9, ad10, cp11⟩ ac w hs => ?_))
      refine lstep (wpO_plain rfl (op_assign hs none rfl rfl rfl rfl fun ac hs => ?_))
      refine wpList_nil ?_
      refine then_n ?_
      refine wp_region_lit ?_
      refine lstep (wpO_plain rfl (op_move hs none rfl rfl rfl rfl fun ac hs => ?_))
      refine lstep (wpO_plain rfl (op_move hs none rfl rfl rfl rfl fun ac hs => ?_))
      refine lstep (wpO_plain rfl (op_nilCheck hs none rfl rfl rfl rfl fun ac hs => ?_))
      refine lstep (wpO_plain rfl (op_fieldA hs none rfl rfl rfl Try.underlying61 rfl Try.sizeOf22 (by decide) rfl fun ac hs => ?_))
      refine lstep (wpO_plain rfl (op_load hs none 0 (v := .slice aa js.length ca) rfl rfl rfl rfl Try.isAgg22 Try.sizeOf22 rfl rfl fun ac hs => ?_))
      refine lstep (wpO_plain rfl (op_move hs none rfl rfl rfl rfl fun ac hs => ?_))
      refine lstep (wpO_plain rfl (op_bsO hs none none (qs := [(0, .slice ad10 p4.length cp11)]) (cs := [.slice ad10 p4.length cp11]) rfl rfl rfl rfl Try.underlying22 inf_slice_34 (by decide) (by decide) (fill_one _ _ rfl) rfl rfl rfl rfl fun ad13 ac w hs => ?_))
      refine lstep (wpO_plain rfl (op_appR hs none 1 3 (N' := (js ++ [p4]).length) (ys := us ++ [.slice ad10 p4.length cp11]) rfl rfl rfl rfl rfl rfl Try.underlying22 inf_slice_34 rfl (by decide) rfl (by intro u hu; obtain rfl := List.mem_singleton.1 hu; rfl) (by decide) (show js.length + 1 ≤ 1000000 by omega) (by simp) rfl rfl rfl fun ad14 cp15 ac w hs => ?_))
      refine lstep (wpO_plain rfl (op_nilCheck hs none rfl rfl rfl rfl fun ac hs => ?_))
      refine lstep (wpO_plain rfl (op_fieldA hs none rfl rfl rfl Try.underlying61 rfl Try.sizeOf22 (by decide) rfl fun ac hs => ?_))
      refine lstep (wpO_plain rfl (op_store hs 0 (vs := [.slice ad14 ((js ++ [p4]).length) cp15]) rfl rfl rfl rfl rfl Try.sizeOf22 rfl rfl rfl rfl rfl fun w hs => ?_))
      refine wpList_nil ?_
      replace hs := hs.altB 2 (hs.ownLen 0 rfl) hu rfl
      refine blk_n ?_
      refine then_n ?_
      refine wp_seq ?_
      replace hs : St 90 ⟨w0, [], [(true, .own (.slice ad7 ks5.length cp8) 34 1 ks5.length vs9), (true, .own (.slice ad14 ((js ++ [p4]).length) cp15) 34 1 ((js ++ [p4]).length) (us ++ [.slice ad10 p4.length cp11])), (true, .bysO G (vs9 ++ (us ++ [.slice ad10 p4.length cp11]) ++ xs) (ks5 ++ (js ++ [p4]) ++ ts)), (true, .own (.slice ad13 1 1) 34 1 1 ([.slice ad10 p4.length cp11]))], Z, X⟩ [(4, true, .bool false)] [(true, gm, 61, [.slice ad7 ks5.length cp8, .slice ad14 ((js ++ [p4]).length) cp15, .int .i64 ((e6 : Nat) : Int)])] ac _ := hs.re ⟨rfl, trivial⟩
      refine wp_region_lit ?_
      refine lstep (wpO_plain rfl (op_assign hs none rfl rfl rfl rfl fun ac hs => ?_))
      refine wpList_nil ?_
      refine then_n ?_
      refine wp_ret ?_
      have HS := hs
      have h0 := hp
      unfold movL at h0
      rw [if_neg hp2, if_pos hp3] at h0
      simp only [hks5] at h0
      obtain ⟨hq, hk, hj, he⟩ := inj4 h0
      subst hq
      subst hk
      subst hj
      subst he
      have hs := HS
      exact bodyPost_ret (res1 rfl (rv_t hs rfl)) hs.defers ⟨⟨ad7, cp8, vs9, ad14, cp15, us ++ [.slice ad10 p4.length cp11], G⟩, rfl, ((hs.selS [0, 1, 2] rfl (by decide)).selB [0] rfl (by decide)).mem⟩
    · skip
      have hp16 := of_decide_eq_false hc
      refine wp_seq ?_
      replace hs : St 90 ⟨w0, [], [(true, .own (.slice am ks.length cm) 34 1 ks.length vs), (true, .own (.slice aa js.length ca) 34 1 js.length us), (true, .bysO G (vs ++ us ++ xs) (ks ++ js ++ ts))], Z, X⟩ [(0, true, .pointer (some ⟨gm, 0, none⟩)), (4, true, .bool false), (6, true, .int .u8 ((op : Nat) : Int))] [(true, gm, 61, [.slice am ks.length cm, .slice aa js.length ca, .int .i64 ((er : Nat) : Int)])] ac _ := hs.re ⟨rfl, rfl, rfl, trivial⟩
      refine wp_region_lit ?_
      refine lstep (wpO_plain rfl (op_bin hs none (v := .bool (decide (op = 108))) rfl rfl rfl rfl (fun _ => rfl) (bin_eqlN (x := op) (y := 108)) rfl fun ac hs => ?_))
      refine lstep (wpO_plain rfl (op_assign hs none rfl rfl rfl rfl fun ac hs => ?_))
      refine wpList_nil ?_
      refine then_n ?_
      refine wp_cond_split (hs.ev rfl) (fun hc => ?_) (fun hc => ?_)
      · skip
        have hp17 := of_decide_eq_true hc
        refine wp_region_lit ?_
        refine lstep (wpO_plain rfl (op_move hs none rfl rfl rfl rfl fun ac hs => ?_))
        obtain ⟨ks18, js19, e20, hks18⟩ : ∃ z0 z1 z2, backL ks js er = (z0, z1, z2) := ⟨_, _, _, rfl⟩
        obtain ⟨oks18, ojs19⟩ := back_ok ok oj hks18
        refine lstep (wpO_plain rfl (op_callX (F := 43) (ρ := M2) hs none none [0] [0, 1, 2] (v := fun r => .tuple #[]) (S1 := [(true, .own (.slice am ks.length cm) 34 1 ks.length vs), (true, .own (.slice aa js.length ca) 34 1 js.length us), (true, .bysO G (vs ++ us ++ xs) (ks ++ js ++ ts))]) (bs1 := [(true, gm, 61, [.slice am ks.length cm, .slice aa js.length ca, .int .i64 ((er : Nat) : Int)])]) (E := fun r => [(true, .own (.slice r.a ks18.length r.c) 34 1 ks18.length r.vs), (true, .own (.slice r.b js19.length r.d) 34 1 js19.length r.us), (true, .bysO r.G (r.vs ++ r.us ++ xs) (ks18 ++ js19 ++ ts))]) (E1 := fun r => [(true, .own (.slice r.a ks18.length r.c) 34 1 ks18.length r.vs), (true, .own (.slice r.b js19.length r.d) 34 1 js19.length r.us), (true, .bysO r.G (r.vs ++ r.us ++ xs) (ks18 ++ js19 ++ ts))]) (E2 := fun r => []) (bfA := fun r => [(true, gm, 61, [.slice r.a ks18.length r.c, .slice r.b js19.length r.d, .int .i64 ((e20 : Nat) : Int)])]) (bf := fun r => [(true, gm, 61, [.slice r.a ks18.length r.c, .slice r.b js19.length r.d, .int .i64 ((e20 : Nat) : Int)])]) (bf2 := fun r => []) rfl rfl rfl rfl rfl (Try.call43 _) rfl rfl (by decide) (by decide) (fun Z X hm => back_c gm am cm vs aa ca us G xs ts ks js er ks18 js19 e20 (ok.mono (by decide)) (oj.mono (by decide)) hks18 _ _ _ hm) (fun _ => rfl) (fun _ => rfl) (fun _ => rfl) (fun _ => rfl) (fun _ => rfl) rfl fun ⟨ad21, cp22, vs23, ad24, cp25, us26, G27⟩ ac w hs => ?_))
        refine wpList_nil ?_
        refine blk_n ?_
        refine then_n ?_
        refine wp_seq ?_
        refine wp_region_lit ?_
        refine lstep (wpO_plain rfl (op_assign hs none rfl rfl rfl rfl fun ac hs => ?_))
        refine wpList_nil ?_
        refine then_n ?_
        refine wp_ret ?_
        have HS := hs
        have h0 := hp
        unfold movL at h0
        rw [if_neg hp2, if_neg hp16, if_pos hp17] at h0
        simp only [hks18] at h0
        obtain ⟨hq, hk, hj, he⟩ := inj4 h0
        subst hq
        subst hk
        subst hj
        subst he
        have hs := HS
        exact bodyPost_ret (res1 rfl (rv_t hs rfl)) hs.defers ⟨⟨ad21, cp22, vs23, ad24, cp25, us26, G27⟩, rfl, ((hs.selS [0, 1, 2] rfl (by decide)).selB [0] rfl (by decide)).mem⟩
      · skip
        have hp28 := of_decide_eq_false hc
        refine wp_seq ?_
        refine wp_region_lit ?_
        refine lstep (wpO_plain rfl (op_bin hs none (v := .bool (decide (op = 109))) rfl rfl rfl rfl (fun _ => rfl) (bin_eqlN (x := op) (y := 109)) rfl fun ac hs => ?_))
        refine lstep (wpO_plain rfl (op_assign hs none rfl rfl rfl rfl fun ac hs => ?_))
        refine wpList_nil ?_
        refine then_n ?_
        refine wp_cond_split (hs.ev rfl) (fun hc => ?_) (fun hc => ?_)
        · skip
          have hp29 := of_decide_eq_true hc
          refine wp_region_lit ?_
          refine lstep (wpO_plain rfl (op_move hs none rfl rfl rfl rfl fun ac hs => ?_))
          replace hs := hs.nilCel none rfl
          replace hs := hs.celEq 3 (N' := ([] : List Nat).length) (cs' := intL []) rfl rfl rfl
          obtain ⟨ks30, e31, hks30⟩ : ∃ z0 z1, shufL 2 ([]) ks er = (z0, z1) := ⟨_, _, rfl⟩
          have oks30 := shuf_ok ok (show ([] : List Nat).length ≤ 6 by decide) hks30
          refine lstep (wpO_plain rfl (op_callX (F := 44) (ρ := M1) hs none none [0] [0, 1, 2, 3] (v := fun r => .tuple #[]) (S1 := [(true, .own (.slice am ks.length cm) 34 1 ks.length vs), (true, .own (.slice aa js.length ca) 34 1 js.length us), (true, .bysO G (vs ++ us ++ xs) (ks ++ js ++ ts)), (true, .cel (.slice none (([] : List Nat).length) 0) (([] : List Nat).length) (intL []))]) (bs1 := [(true, gm, 61, [.slice am ks.length cm, .slice aa js.length ca, .int .i64 ((er : Nat) : Int)])]) (E := fun r => [(true, .own (.slice r.a ks30.length r.c) 34 1 ks30.length r.vs), (true, .own (.slice aa js.length ca) 34 1 js.length us), (true, .bysO r.G (r.vs ++ us ++ xs) (ks30 ++ js ++ ts)), (true, .cel (.slice none (([] : List Nat).length) 0) (([] : List Nat).length) (intL []))]) (E1 := fun r => [(true, .own (.slice r.a ks30.length r.c) 34 1 ks30.length r.vs), (true, .own (.slice aa js.length ca) 34 1 js.length us), (true, .bysO r.G (r.vs ++ us ++ xs) (ks30 ++ js ++ ts)), (true, .cel (.slice none (([] : List Nat).length) 0) (([] : List Nat).length) (intL []))]) (E2 := fun r => []) (bfA := fun r => [(true, gm, 61, [.slice r.a ks30.length r.c, .slice aa js.length ca, .int .i64 ((e31 : Nat) : Int)])]) (bf := fun r => [(true, gm, 61, [.slice r.a ks30.length r.c, .slice aa js.length ca, .int .i64 ((e31 : Nat) : Int)])]) (bf2 := fun r => []) rfl rfl rfl rfl rfl (Try.call44 _) rfl rfl (by decide) (by decide) (fun Z X hm => shuffle_c gm am cm vs aa ca us G xs ts ks js er 2 ([]) none 0 ks30 e31 (ok.mono (by decide)) (by decide) (by decide) hks30 _ _ _ hm) (fun _ => rfl) (fun _ => rfl) (fun _ => rfl) (fun _ => rfl) (fun _ => rfl) rfl fun ⟨ad32, cp33, vs34, G35⟩ ac w hs => ?_))
          refine wpList_nil ?_
          refine blk_n ?_
          refine then_n ?_
          refine wp_seq ?_
          replace hs : St 90 ⟨w0, [], [(true, .own (.slice ad32 ks30.length cp33) 34 1 ks30.length vs34), (true, .own (.slice aa js.length ca) 34 1 js.length us), (true, .bysO G35 (vs34 ++ us ++ xs) (ks30 ++ js ++ ts)), (true, .cel (.slice none (([] : List Nat).length) 0) (([] : List Nat).length) (intL []))], Z, X⟩ [(4, true, .bool false)] [(true, gm, 61, [.slice ad32 ks30.length cp33, .slice aa js.length ca, .int .i64 ((e31 : Nat) : Int)])] ac _ := hs.re ⟨rfl, trivial⟩
          refine wp_region_lit ?_
          refine lstep (wpO_plain rfl (op_assign hs none rfl rfl rfl rfl fun ac hs => ?_))
          refine wpList_nil ?_
          refine then_n ?_
          refine wp_ret ?_
          have HS := hs
          have h0 := hp
          unfold movL at h0
          rw [if_neg hp2, if_neg hp16, if_neg hp28, if_pos hp29] at h0
          simp only [hks30] at h0
          obtain ⟨hq, hk, hj, he⟩ := inj4 h0
          subst hq
          subst hk
          subst hj
          subst he
          have hs := HS
          exact bodyPost_ret (res1 rfl (rv_t hs rfl)) hs.defers ⟨⟨ad32, cp33, vs34, aa, ca, us, G35⟩, rfl, ((hs.selS [0, 1, 2] rfl (by decide)).selB [0] rfl (by decide)).mem⟩
        · skip
          have hp36 := of_decide_eq_false hc
          refine wp_seq ?_
          refine wp_region_lit ?_
          refine lstep (wpO_plain rfl (op_bin hs none (v := .bool (decide (op = 110))) rfl rfl rfl rfl (fun _ => rfl) (bin_eqlN (x := op) (y := 110)) rfl fun ac hs => ?_))
          refine lstep (wpO_plain rfl (op_assign hs none rfl rfl rfl rfl fun ac hs => ?_))
          refine wpList_nil ?_
          refine then_n ?_
          refine wp_cond_split (hs.ev rfl) (fun hc => ?_) (fun hc => ?_)
          · skip
            have hp37 := of_decide_eq_true hc
            replace hs : St 90 ⟨w0, [], [(true, .own (.slice am ks.length cm) 34 1 ks.length vs), (true, .own (.slice aa js.length ca) 34 1 js.length us), (true, .bysO G (vs ++ us ++ xs) (ks ++ js ++ ts))], Z, X⟩ [(0, true, .pointer (some ⟨gm, 0, none⟩)), (4, true, .bool false)] [(true, gm, 61, [.slice am ks.length cm, .slice aa js.length ca, .int .i64 ((er : Nat) : Int)])] ac _ := hs.re ⟨rfl, rfl, trivial⟩
            refine wp_region_lit ?_
            refine lstep (wpO_plain rfl (op_move hs none rfl rfl rfl rfl fun ac hs => ?_))
            refine lstep (wpO_plain rfl (op_bsO hs none none (qs := [(0, .int .i64 0), (1, .int .i64 1), (2, .int .i64 0), (3, .int .i64 1)]) (cs := [.int .i64 0, .int .i64 1, .int .i64 0, .int .i64 1]) rfl rfl rfl rfl Try.underlying78 inf_i64_3 (by decide) (by decide) (by kernel_rfl) rfl rfl rfl rfl fun ad39 ac w hs => ?_))
            replace hs := hs.freeze 3 rfl
            replace hs := hs.celEq 3 (N' := ([0, 1, 0, 1] : List Nat).length) (cs' := intL [0, 1, 0, 1]) rfl rfl rfl
            obtain ⟨ks40, e41, hks40⟩ : ∃ z0 z1, shufL 2 ([0, 1, 0, 1]) ks er = (z0, z1) := ⟨_, _, rfl⟩
            have oks40 := shuf_ok ok (show ([0, 1, 0, 1] : List Nat).length ≤ 6 by decide) hks40
            refine lstep (wpO_plain rfl (op_callX (F := 44) (ρ := M1) hs none none [0] [0, 1, 2, 3] (v := fun r => .tuple #[]) (S1 := [(true, .own (.slice am ks.length cm) 34 1 ks.length vs), (true, .own (.slice aa js.length ca) 34 1 js.length us), (true, .bysO G (vs ++ us ++ xs) (ks ++ js ++ ts)), (true, .cel (.slice ad39 (([0, 1, 0, 1] : List Nat).length) 4) (([0, 1, 0, 1] : List Nat).length) (intL [0, 1, 0, 1]))]) (bs1 := [(true, gm, 61, [.slice am ks.length cm, .slice aa js.length ca, .int .i64 ((er : Nat) : Int)])]) (E := fun r => [(true, .own (.slice r.a ks40.length r.c) 34 1 ks40.length r.vs), (true, .own (.slice aa js.length ca) 34 1 js.length us), (true, .bysO r.G (r.vs ++ us ++ xs) (ks40 ++ js ++ ts)), (true, .cel (.slice ad39 (([0, 1, 0, 1] : List Nat).length) 4) (([0, 1, 0, 1] : List Nat).length) (intL [0, 1, 0, 1]))]) (E1 := fun r => [(true, .own (.slice r.a ks40.length r.c) 34 1 ks40.length r.vs), (true, .own (.slice aa js.length ca) 34 1 js.length us), (true, .bysO r.G (r.vs ++ us ++ xs) (ks40 ++ js ++ ts)), (true, .cel (.slice ad39 (([0, 1, 0, 1] : List Nat).length) 4) (([0, 1, 0, 1] : List Nat).length) (intL [0, 1, 0, 1]))]) (E2 := fun r => []) (bfA := fun r => [(true, gm, 61, [.slice r.a ks40.length r.c, .slice aa js.length ca, .int .i64 ((e41 : Nat) : Int)])]) (bf := fun r => [(true, gm, 61, [.slice r.a ks40.length r.c, .slice aa js.length ca, .int .i64 ((e41 : Nat) : Int)])]) (bf2 := fun r => []) rfl rfl rfl rfl rfl (Try.call44 _) rfl rfl (by decide) (by decide) (fun Z X hm => shuffle_c gm am cm vs aa ca us G xs ts ks js er 2 ([0, 1, 0, 1]) ad39 4 ks40 e41 (ok.mono (by decide)) (by decide) (by decide) hks40 _ _ _ hm) (fun _ => rfl) (fun _ => rfl) (fun _ => rfl) (fun _ => rfl) (fun _ => rfl) rfl fun ⟨ad42, cp43, vs44, G45⟩ ac w hs => ?_))
            refine wpList_nil ?_
            refine blk_n ?_
            refine then_n ?_
            refine wp_seq ?_
            refine wp_region_lit ?_
            refine lstep (wpO_plain rfl (op_assign hs none rfl rfl rfl rfl fun ac hs => ?_))
            refine wpList_nil ?_
            refine then_n ?_
            refine wp_ret ?_
            have HS := hs
            have h0 := hp
            unfold movL at h0
            rw [if_neg hp2, if_neg hp16, if_neg hp28, if_neg hp36, if_pos hp37] at h0
            simp only [hks40] at h0
            obtain ⟨hq, hk, hj, he⟩ := inj4 h0
            subst hq
            subst hk
            subst hj
            subst he
            have hs := HS
            exact bodyPost_ret (res1 rfl (rv_t hs rfl)) hs.defers ⟨⟨ad42, cp43, vs44, aa, ca, us, G45⟩, rfl, ((hs.selS [0, 1, 2] rfl (by decide)).selB [0] rfl (by decide)).mem⟩
          · skip
            have hp46 := of_decide_eq_false hc
            refine wp_seq ?_
            replace hs : St 90 ⟨w0, [], [(true, .own (.slice am ks.length cm) 34 1 ks.length vs), (true, .own (.slice aa js.length ca) 34 1 js.length us), (true, .bysO G (vs ++ us ++ xs) (ks ++ js ++ ts))], Z, X⟩ [(0, true, .pointer (some ⟨gm, 0, none⟩)), (4, true, .bool false), (6, true, .int .u8 ((op : Nat) : Int))] [(true, gm, 61, [.slice am ks.length cm, .slice aa js.length ca, .int .i64 ((er : Nat) : Int)])] ac _ := hs.re ⟨rfl, rfl, rfl, trivial⟩
            refine wp_region_lit ?_
            refine lstep (wpO_plain rfl (op_bin hs none (v := .bool (decide (op = 111))) rfl rfl rfl rfl (fun _ => rfl) (bin_eqlN (x := op) (y := 111)) rfl fun ac hs => ?_))
            refine lstep (wpO_plain rfl (op_assign hs none rfl rfl rfl rfl fun ac hs => ?_))
            refine wpList_nil ?_
            refine then_n ?_
            refine wp_cond_split (hs.ev rfl) (fun hc => ?_) (fun hc => ?_)
            · skip
              have hp47 := of_decide_eq_true hc
              refine wp_region_lit ?_
              refine lstep (wpO_plain rfl (op_move hs none rfl rfl rfl rfl fun ac hs => ?_))
              refine lstep (wpO_plain rfl (op_bsO hs none none (qs := [(0, .int .i64 0), (1, .int .i64 1), (2, .int .i64 2), (3, .int .i64 0), (4, .int .i64 1), (5, .int .i64 2)]) (cs := [.int .i64 0, .int .i64 1, .int .i64 2, .int .i64 0, .int .i64 1, .int .i64 2]) rfl rfl rfl rfl Try.underlying78 inf_i64_3 (by decide) (by decide) (by kernel_rfl) rfl rfl rfl rfl fun ad49 ac w hs => ?_))
              replace hs := hs.freeze 3 rfl
              replace hs := hs.celEq 3 (N' := ([0, 1, 2, 0, 1, 2] : List Nat).length) (cs' := intL [0, 1, 2, 0, 1, 2]) rfl rfl rfl
              obtain ⟨ks50, e51, hks50⟩ : ∃ z0 z1, shufL 3 ([0, 1, 2, 0, 1, 2]) ks er = (z0, z1) := ⟨_, _, rfl⟩
              have oks50 := shuf_ok ok (show ([0, 1, 2, 0, 1, 2] : List Nat).length ≤ 6 by decide) hks50
              refine lstep (wpO_plain rfl (op_callX (F := 44) (ρ := M1) hs none none [0] [0, 1, 2, 3] (v := fun r => .tuple #[]) (S1 := [(true, .own (.slice am ks.length cm) 34 1 ks.length vs), (true, .own (.slice aa js.length ca) 34 1 js.length us), (true, .bysO G (vs ++ us ++ xs) (ks ++ js ++ ts)), (true, .cel (.slice ad49 (([0, 1, 2, 0, 1, 2] : List Nat).length) 6) (([0, 1, 2, 0, 1, 2] : List Nat).length) (intL [0, 1, 2, 0, 1, 2]))]) (bs1 := [(true, gm, 61, [.slice am ks.length cm, .slice aa js.length ca, .int .i64 ((er : Nat) : Int)])]) (E := fun r => [(true, .own (.slice r.a ks50.length r.c) 34 1 ks50.length r.vs), (true, .own (.slice aa js.length ca) 34 1 js.length us), (true, .bysO r.G (r.vs ++ us ++ xs) (ks50 ++ js ++ ts)), (true, .cel (.slice ad49 (([0, 1, 2, 0, 1, 2] : List Nat).length) 6) (([0, 1, 2, 0, 1, 2] : List Nat).length) (intL [0, 1, 2, 0, 1, 2]))]) (E1 := fun r => [(true, .own (.slice r.a ks50.length r.c) 34 1 ks50.length r.vs), (true, .own (.slice aa js.length ca) 34 1 js.length us), (true, .bysO r.G (r.vs ++ us ++ xs) (ks50 ++ js ++ ts)), (true, .cel (.slice ad49 (([0, 1, 2, 0, 1, 2] : List Nat).length) 6) (([0, 1, 2, 0, 1, 2] : List Nat).length) (intL [0, 1, 2, 0, 1, 2]))]) (E2 := fun r => []) (bfA := fun r => [(true, gm, 61, [.slice r.a ks50.length r.c, .slice aa js.length ca, .int .i64 ((e51 : Nat) : Int)])]) (bf := fun r => [(true, gm, 61, [.slice r.a ks50.length r.c, .slice aa js.length ca, .int .i64 ((e51 : Nat) : Int)])]) (bf2 := fun r => []) rfl rfl rfl rfl rfl (Try.call44 _) rfl rfl (by decide) (by decide) (fun Z X hm => shuffle_c gm am cm vs aa ca us G xs ts ks js er 3 ([0, 1, 2, 0, 1, 2]) ad49 6 ks50 e51 (ok.mono (by decide)) (by decide) (by decide) hks50 _ _ _ hm) (fun _ => rfl) (fun _ => rfl) (fun _ => rfl) (fun _ => rfl) (fun _ => rfl) rfl fun ⟨ad52, cp53, vs54, G55⟩ ac w hs => ?_))
              refine wpList_nil ?_
              refine blk_n ?_
              refine then_n ?_
              refine wp_seq ?_
              refine wp_region_lit ?_
              refine lstep (wpO_plain rfl (op_assign hs none rfl rfl rfl rfl fun ac hs => ?_))
              refine wpList_nil ?_
              refine then_n ?_
              refine wp_ret ?_
              have HS := hs
              have h0 := hp
              unfold movL at h0
              rw [if_neg hp2, if_neg hp16, if_neg hp28, if_neg hp36, if_neg hp46, if_pos hp47] at h0
              simp only [hks50] at h0
              obtain ⟨hq, hk, hj, he⟩ := inj4 h0
              subst hq
              subst hk
              subst hj
              subst he
              have hs := HS
              exact bodyPost_ret (res1 rfl (rv_t hs rfl)) hs.defers ⟨⟨ad52, cp53, vs54, aa, ca, us, G55⟩, rfl, ((hs.selS [0, 1, 2] rfl (by decide)).selB [0] rfl (by decide)).mem⟩
            · skip
              have hp56 := of_decide_eq_false hc
              refine wp_seq ?_
              refine wp_region_lit ?_
              refine lstep (wpO_plain rfl (op_bin hs none (v := .bool (decide (op = 112))) rfl rfl rfl rfl (fun _ => rfl) (bin_eqlN (x := op) (y := 112)) rfl fun ac hs => ?_))
              refine lstep (wpO_plain rfl (op_assign hs none rfl rfl rfl rfl fun ac hs => ?_))
              refine wpList_nil ?_
              refine then_n ?_
              refine wp_cond_split (hs.ev rfl) (fun hc => ?_) (fun hc => ?_)
              · skip
                have hp57 := of_decide_eq_true hc
                refine wp_region_lit ?_
                refine lstep (wpO_plain rfl (op_move hs none rfl rfl rfl rfl fun ac hs => ?_))
                refine lstep (wpO_plain rfl (op_bsO hs none none (qs := [(0, .int .i64 0), (1, .int .i64 1), (2, .int .i64 2), (3, .int .i64 3), (4, .int .i64 0), (5, .int .i64 1)]) (cs := [.int .i64 0, .int .i64 1, .int .i64 2, .int .i64 3, .int .i64 0, .int .i64 1]) rfl rfl rfl rfl Try.underlying78 inf_i64_3 (by decide) (by decide) (by kernel_rfl) rfl rfl rfl rfl fun ad59 ac w hs => ?_))
                replace hs := hs.freeze 3 rfl
                replace hs := hs.celEq 3 (N' := ([0, 1, 2, 3, 0, 1] : List Nat).length) (cs' := intL [0, 1, 2, 3, 0, 1]) rfl rfl rfl
                obtain ⟨ks60, e61, hks60⟩ : ∃ z0 z1, shufL 4 ([0, 1, 2, 3, 0, 1]) ks er = (z0, z1) := ⟨_, _, rfl⟩
                have oks60 := shuf_ok ok (show ([0, 1, 2, 3, 0, 1] : List Nat).length ≤ 6 by decide) hks60
                refine lstep (wpO_plain rfl (op_callX (F := 44) (ρ := M1) hs none none [0] [0, 1, 2, 3] (v := fun r => .tuple #[]) (S1 := [(true, .own (.slice am ks.length cm) 34 1 ks.length vs), (true, .own (.slice aa js.length ca) 34 1 js.length us), (true, .bysO G (vs ++ us ++ xs) (ks ++ js ++ ts)), (true, .cel (.slice ad59 (([0, 1, 2, 3, 0, 1] : List Nat).length) 6) (([0, 1, 2, 3, 0, 1] : List Nat).length) (intL [0, 1, 2, 3, 0, 1]))]) (bs1 := [(true, gm, 61, [.slice am ks.length cm, .slice aa js.length ca, .int .i64 ((er : Nat) : Int)])]) (E := fun r => [(true, .own (.slice r.a ks60.length r.c) 34 1 ks60.length r.vs), (true, .own (.slice aa js.length ca) 34 1 js.length us), (true, .bysO r.G (r.vs ++ us ++ xs) (ks60 ++ js ++ ts)), (true, .cel (.slice ad59 (([0, 1, 2, 3, 0, 1] : List Nat).length) 6) (([0, 1, 2, 3, 0, 1] : List Nat).length) (intL [0, 1, 2, 3, 0, 1]))]) (E1 := fun r => [(true, .own (.slice r.a ks60.length r.c) 34 1 ks60.length r.vs), (true, .own (.slice aa js.length ca) 34 1 js.length us), (true, .bysO r.G (r.vs ++ us ++ xs) (ks60 ++ js ++ ts)), (true, .cel (.slice ad59 (([0, 1, 2, 3, 0, 1] : List Nat).length) 6) (([0, 1, 2, 3, 0, 1] : List Nat).length) (intL [0, 1, 2, 3, 0, 1]))]) (E2 := fun r => []) (bfA := fun r => [(true, gm, 61, [.slice r.a ks60.length r.c, .slice aa js.length ca, .int .i64 ((e61 : Nat) : Int)])]) (bf := fun r => [(true, gm, 61, [.slice r.a ks60.length r.c, .slice aa js.length ca, .int .i64 ((e61 : Nat) : Int)])]) (bf2 := fun r => []) rfl rfl rfl rfl rfl (Try.call44 _) rfl rfl (by decide) (by decide) (fun Z X hm => shuffle_c gm am cm vs aa ca us G xs ts ks js er 4 ([0, 1, 2, 3, 0, 1]) ad59 6 ks60 e61 (ok.mono (by decide)) (by decide) (by decide) hks60 _ _ _ hm) (fun _ => rfl) (fun _ => rfl) (fun _ => rfl) (fun _ => rfl) (fun _ => rfl) rfl fun ⟨ad62, cp63, vs64, G65⟩ ac w hs => ?_))
                refine wpList_nil ?_
                refine blk_n ?_
                refine then_n ?_
                refine wp_seq ?_
                replace hs : St 90 ⟨w0, [], [(true, .own (.slice ad62 ks60.length cp63) 34 1 ks60.length vs64), (true, .own (.slice aa js.length ca) 34 1 js.length us), (true, .bysO G65 (vs64 ++ us ++ xs) (ks60 ++ js ++ ts)), (true, .cel (.slice ad59 (([0, 1, 2, 3, 0, 1] : List Nat).length) 6) (([0, 1, 2, 3, 0, 1] : List Nat).length) (intL [0, 1, 2, 3, 0, 1]))], Z, X⟩ [(4, true, .bool false)] [(true, gm, 61, [.slice ad62 ks60.length cp63, .slice aa js.length ca, .int .i64 ((e61 : Nat) : Int)])] ac _ := hs.re ⟨rfl, trivial⟩
                refine wp_region_lit ?_
                refine lstep (wpO_plain rfl (op_assign hs none rfl rfl rfl rfl fun ac hs => ?_))
                refine wpList_nil ?_
                refine then_n ?_
                refine wp_ret ?_
                have HS := hs
                have h0 := hp
                unfold movL at h0
                rw [if_neg hp2, if_neg hp16, if_neg hp28, if_neg hp36, if_neg hp46, if_neg hp56, if_pos hp57] at h0
                simp only [hks60] at h0
                obtain ⟨hq, hk, hj, he⟩ := inj4 h0
                subst hq
                subst hk
                subst hj
                subst he
                have hs := HS
                exact bodyPost_ret (res1 rfl (rv_t hs rfl)) hs.defers ⟨⟨ad62, cp63, vs64, aa, ca, us, G65⟩, rfl, ((hs.selS [0, 1, 2] rfl (by decide)).selB [0] rfl (by decide)).mem⟩
              · skip
                have hp66 := of_decide_eq_false hc
                refine wp_seq ?_
                refine wp_region_lit ?_
                refine lstep (wpO_plain rfl (op_bin hs none (v := .bool (decide (op = 113))) rfl rfl rfl rfl (fun _ => rfl) (bin_eqlN (x := op) (y := 113)) rfl fun ac hs => ?_))
                refine lstep (wpO_plain rfl (op_assign hs none rfl rfl rfl rfl fun ac hs => ?_))
                refine wpList_nil ?_
                refine then_n ?_
                refine wp_cond_split (hs.ev rfl) (fun hc => ?_) (fun hc => ?_)
                · skip
                  have hp67 := of_decide_eq_true hc
                  replace hs : St 90 ⟨w0, [], [(true, .own (.slice am ks.length cm) 34 1 ks.length vs), (true, .own (.slice aa js.length ca) 34 1 js.length us), (true, .bysO G (vs ++ us ++ xs) (ks ++ js ++ ts))], Z, X⟩ [(0, true, .pointer (some ⟨gm, 0, none⟩)), (4, true, .bool false)] [(true, gm, 61, [.slice am ks.length cm, .slice aa js.length ca, .int .i64 ((er : Nat) : Int)])] ac _ := hs.re ⟨rfl, rfl, trivial⟩
                  refine wp_region_lit ?_
                  refine lstep (wpO_plain rfl (op_move hs none rfl rfl rfl rfl fun ac hs => ?_))
                  refine lstep (wpO_plain rfl (op_bsO hs none none (qs := [(0, .int .i64 2), (1, .int .i64 3), (2, .int .i64 4), (3, .int .i64 5), (4, .int .i64 0), (5, .int .i64 1)]) (cs := [.int .i64 2, .int .i64 3, .int .i64 4, .int .i64 5, .int .i64 0, .int .i64 1]) rfl rfl rfl rfl Try.underlying78 inf_i64_3 (by decide) (by decide) (by kernel_rfl) rfl rfl rfl rfl fun ad69 ac w hs => ?_))
                  replace hs := hs.freeze 3 rfl
                  replace hs := hs.celEq 3 (N' := ([2, 3, 4, 5, 0, 1] : List Nat).length) (cs' := intL [2, 3, 4, 5, 0, 1]) rfl rfl rfl
                  obtain ⟨ks70, e71, hks70⟩ : ∃ z0 z1, shufL 6 ([2, 3, 4, 5, 0, 1]) ks er = (z0, z1) := ⟨_, _, rfl⟩
                  have oks70 := shuf_ok ok (show ([2, 3, 4, 5, 0, 1] : List Nat).length ≤ 6 by decide) hks70
                  refine lstep (wpO_plain rfl (op_callX (F := 44) (ρ := M1) hs none none [0] [0, 1, 2, 3] (v := fun r => .tuple #[]) (S1 := [(true, .own (.slice am ks.length cm) 34 1 ks.length vs), (true, .own (.slice aa js.length ca) 34 1 js.length us), (true, .bysO G (vs ++ us ++ xs) (ks ++ js ++ ts)), (true, .cel (.slice ad69 (([2, 3, 4, 5, 0, 1] : List Nat).length) 6) (([2, 3, 4, 5, 0, 1] : List Nat).length) (intL [2, 3, 4, 5, 0, 1]))]) (bs1 := [(true, gm, 61, [.slice am ks.length cm, .slice aa js.length ca, .int .i64 ((er : Nat) : Int)])]) (E := fun r => [(true, .own (.slice r.a ks70.length r.c) 34 1 ks70.length r.vs), (true, .own (.slice aa js.length ca) 34 1 js.length us), (true, .bysO r.G (r.vs ++ us ++ xs) (ks70 ++ js ++ ts)), (true, .cel (.slice ad69 (([2, 3, 4, 5, 0, 1] : List Nat).length) 6) (([2, 3, 4, 5, 0, 1] : List Nat).length) (intL [2, 3, 4, 5, 0, 1]))]) (E1 := fun r => [(true, .own (.slice r.a ks70.length r.c) 34 1 ks70.length r.vs), (true, .own (.slice aa js.length ca) 34 1 js.length us), (true, .bysO r.G (r.vs ++ us ++ xs) (ks70 ++ js ++ ts)), (true, .cel (.slice ad69 (([2, 3, 4, 5, 0, 1] : List Nat).length) 6) (([2, 3, 4, 5, 0, 1] : List Nat).length) (intL [2, 3, 4, 5, 0, 1]))]) (E2 := fun r => []) (bfA := fun r => [(true, gm, 61, [.slice r.a ks70.length r.c, .slice aa js.length ca, .int .i64 ((e71 : Nat) : Int)])]) (bf := fun r => [(true, gm, 61, [.slice r.a ks70.length r.c, .slice aa js.length ca, .int .i64 ((e71 : Nat) : Int)])]) (bf2 := fun r => []) rfl rfl rfl rfl rfl (Try.call44 _) rfl rfl (by decide) (by decide) (fun Z X hm => shuffle_c gm am cm vs aa ca us G xs ts ks js er 6 ([2, 3, 4, 5, 0, 1]) ad69 6 ks70 e71 (ok.mono (by decide)) (by decide) (by decide) hks70 _ _ _ hm) (fun _ => rfl) (fun _ => rfl) (fun _ => rfl) (fun _ => rfl) (fun _ => rfl) rfl fun ⟨ad72, cp73, vs74, G75⟩ ac w hs => ?_))
                  refine wpList_nil ?_
                  refine blk_n ?_
                  refine then_n ?_
                  refine wp_seq ?_
                  refine wp_region_lit ?_
                  refine lstep (wpO_plain rfl (op_assign hs none rfl rfl rfl rfl fun ac hs => ?_))
                  refine wpList_nil ?_
                  refine then_n ?_
                  refine wp_ret ?_
                  have HS := hs
                  have h0 := hp
                  unfold movL at h0
                  rw [if_neg hp2, if_neg hp16, if_neg hp28, if_neg hp36, if_neg hp46, if_neg hp56, if_neg hp66, if_pos hp67] at h0
                  simp only [hks70] at h0
                  obtain ⟨hq, hk, hj, he⟩ := inj4 h0
                  subst hq
                  subst hk
                  subst hj
                  subst he
                  have hs := HS
                  exact bodyPost_ret (res1 rfl (rv_t hs rfl)) hs.defers ⟨⟨ad72, cp73, vs74, aa, ca, us, G75⟩, rfl, ((hs.selS [0, 1, 2] rfl (by decide)).selB [0] rfl (by decide)).mem⟩
                · skip
                  have hp76 := of_decide_eq_false hc
                  refine wp_seq ?_
                  replace hs : St 90 ⟨w0, [], [(true, .own (.slice am ks.length cm) 34 1 ks.length vs), (true, .own (.slice aa js.length ca) 34 1 js.length us), (true, .bysO G (vs ++ us ++ xs) (ks ++ js ++ ts))], Z, X⟩ [(0, true, .pointer (some ⟨gm, 0, none⟩)), (4, true, .bool false), (6, true, .int .u8 ((op : Nat) : Int))] [(true, gm, 61, [.slice am ks.length cm, .slice aa js.length ca, .int .i64 ((er : Nat) : Int)])] ac _ := hs.re ⟨rfl, rfl, rfl, trivial⟩
                  refine wp_region_lit ?_
                  refine lstep (wpO_plain rfl (op_bin hs none (v := .bool (decide (op = 114))) rfl rfl rfl rfl (fun _ => rfl) (bin_eqlN (x := op) (y := 114)) rfl fun ac hs => ?_))
                  refine lstep (wpO_plain rfl (op_assign hs none rfl rfl rfl rfl fun ac hs => ?_))
                  refine wpList_nil ?_
                  refine then_n ?_
                  refine wp_cond_split (hs.ev rfl) (fun hc => ?_) (fun hc => ?_)
                  · skip
                    have hp77 := of_decide_eq_true hc
                    refine wp_region_lit ?_
                    refine lstep (wpO_plain rfl (op_move hs none rfl rfl rfl rfl fun ac hs => ?_))
                    refine lstep (wpO_plain rfl (op_bsO hs none none (qs := [(0, .int .i64 2), (1, .int .i64 3), (2, .int .i64 0), (3, .int .i64 1)]) (cs := [.int .i64 2, .int .i64 3, .int .i64 0, .int .i64 1]) rfl rfl rfl rfl Try.underlying78 inf_i64_3 (by decide) (by decide) (by kernel_rfl) rfl rfl rfl rfl fun ad79 ac w hs => ?_))
                    replace hs := hs.freeze 3 rfl
                    replace hs := hs.celEq 3 (N' := ([2, 3, 0, 1] : List Nat).length) (cs' := intL [2, 3, 0, 1]) rfl rfl rfl
                    obtain ⟨ks80, e81, hks80⟩ : ∃ z0 z1, shufL 4 ([2, 3, 0, 1]) ks er = (z0, z1) := ⟨_, _, rfl⟩
                    have oks80 := shuf_ok ok (show ([2, 3, 0, 1] : List Nat).length ≤ 6 by decide) hks80
                    refine lstep (wpO_plain rfl (op_callX (F := 44) (ρ := M1) hs none none [0] [0, 1, 2, 3] (v := fun r => .tuple #[]) (S1 := [(true, .own (.slice am ks.length cm) 34 1 ks.length vs), (true, .own (.slice aa js.length ca) 34 1 js.length us), (true, .bysO G (vs ++ us ++ xs) (ks ++ js ++ ts)), (true, .cel (.slice ad79 (([2, 3, 0, 1] : List Nat).length) 4) (([2, 3, 0, 1] : List Nat).length) (intL [2, 3, 0, 1]))]) (bs1 := [(true, gm, 61, [.slice am ks.length cm, .slice aa js.length ca, .int .i64 ((er : Nat) : Int)])]) (E := fun r => [(true, .own (.slice r.a ks80.length r.c) 34 1 ks80.length r.vs), (true, .own (.slice aa js.length ca) 34 1 js.length us), (true, .bysO r.G (r.vs ++ us ++ xs) (ks80 ++ js ++ ts)), (true, .cel (.slice ad79 (([2, 3, 0, 1] : List Nat).length) 4) (([2, 3, 0, 1] : List Nat).length) (intL [2, 3, 0, 1]))]) (E1 := fun r => [(true, .own (.slice r.a ks80.length r.c) 34 1 ks80.length r.vs), (true, .own (.slice aa js.length ca) 34 1 js.length us), (true, .bysO r.G (r.vs ++ us ++ xs) (ks80 ++ js ++ ts)), (true, .cel (.slice ad79 (([2, 3, 0, 1] : List Nat).length) 4) (([2, 3, 0, 1] : List Nat).length) (intL [2, 3, 0, 1]))]) (E2 := fun r => []) (bfA := fun r => [(true, gm, 61, [.slice r.a ks80.length r.c, .slice aa js.length ca, .int .i64 ((e81 : Nat) : Int)])]) (bf := fun r => [(true, gm, 61, [.slice r.a ks80.length r.c, .slice aa js.length ca, .int .i64 ((e81 : Nat) : Int)])]) (bf2 := fun r => []) rfl rfl rfl rfl rfl (Try.call44 _) rfl rfl (by decide) (by decide) (fun Z X hm => shuffle_c gm am cm vs aa ca us G xs ts ks js er 4 ([2, 3, 0, 1]) ad79 4 ks80 e81 (ok.mono (by decide)) (by decide) (by decide) hks80 _ _ _ hm) (fun _ => rfl) (fun _ => rfl) (fun _ => rfl) (fun _ => rfl) (fun _ => rfl) rfl fun ⟨ad82, cp83, vs84, G85⟩ ac w hs => ?_))
                    refine wpList_nil ?_
                    refine blk_n ?_
                    refine then_n ?_
                    refine wp_seq ?_
                    refine wp_region_lit ?_
                    refine lstep (wpO_plain rfl (op_assign hs none rfl rfl rfl rfl fun ac hs => ?_))
                    refine wpList_nil ?_
                    refine then_n ?_
                    refine wp_ret ?_
                    have HS := hs
                    have h0 := hp
                    unfold movL at h0
                    rw [if_neg hp2, if_neg hp16, if_neg hp28, if_neg hp36, if_neg hp46, if_neg hp56, if_neg hp66, if_neg hp76, if_pos hp77] at h0
                    simp only [hks80] at h0
                    obtain ⟨hq, hk, hj, he⟩ := inj4 h0
                    subst hq
                    subst hk
                    subst hj
                    subst he
                    have hs := HS
                    exact bodyPost_ret (res1 rfl (rv_t hs rfl)) hs.defers ⟨⟨ad82, cp83, vs84, aa, ca, us, G85⟩, rfl, ((hs.selS [0, 1, 2] rfl (by decide)).selB [0] rfl (by decide)).mem⟩
                  · skip
                    have hp86 := of_decide_eq_false hc
                    refine wp_seq ?_
                    refine wp_region_lit ?_
                    refine lstep (wpO_plain rfl (op_bin hs none (v := .bool (decide (op = 117))) rfl rfl rfl rfl (fun _ => rfl) (bin_eqlN (x := op) (y := 117)) rfl fun ac hs => ?_))
                    refine lstep (wpO_plain rfl (op_assign hs none rfl rfl rfl rfl fun ac hs => ?_))
                    refine wpList_nil ?_
                    refine then_n ?_
                    refine wp_cond_split (hs.ev rfl) (fun hc => ?_) (fun hc => ?_)
                    · skip
                      have hp87 := of_decide_eq_true hc
                      refine wp_region_lit ?_
                      refine lstep (wpO_plain rfl (op_move hs none rfl rfl rfl rfl fun ac hs => ?_))
                      replace hs := hs.nilCel none rfl
                      replace hs := hs.celEq 3 (N' := ([] : List Nat).length) (cs' := intL []) rfl rfl rfl
                      obtain ⟨ks88, e89, hks88⟩ : ∃ z0 z1, shufL 1 ([]) ks er = (z0, z1) := ⟨_, _, rfl⟩
                      have oks88 := shuf_ok ok (show ([] : List Nat).length ≤ 6 by decide) hks88
                      refine lstep (wpO_plain rfl (op_callX (F := 44) (ρ := M1) hs none none [0] [0, 1, 2, 3] (v := fun r => .tuple #[]) (S1 := [(true, .own (.slice am ks.length cm) 34 1 ks.length vs), (true, .own (.slice aa js.length ca) 34 1 js.length us), (true, .bysO G (vs ++ us ++ xs) (ks ++ js ++ ts)), (true, .cel (.slice none (([] : List Nat).length) 0) (([] : List Nat).length) (intL []))]) (bs1 := [(true, gm, 61, [.slice am ks.length cm, .slice aa js.length ca, .int .i64 ((er : Nat) : Int)])]) (E := fun r => [(true, .own (.slice r.a ks88.length r.c) 34 1 ks88.length r.vs), (true, .own (.slice aa js.length ca) 34 1 js.length us), (true, .bysO r.G (r.vs ++ us ++ xs) (ks88 ++ js ++ ts)), (true, .cel (.slice none (([] : List Nat).length) 0) (([] : List Nat).length) (intL []))]) (E1 := fun r => [(true, .own (.slice r.a ks88.length r.c) 34 1 ks88.length r.vs), (true, .own (.slice aa js.length ca) 34 1 js.length us), (true, .bysO r.G (r.vs ++ us ++ xs) (ks88 ++ js ++ ts)), (true, .cel (.slice none (([] : List Nat).length) 0) (([] : List Nat).length) (intL []))]) (E2 := fun r => []) (bfA := fun r => [(true, gm, 61, [.slice r.a ks88.length r.c, .slice aa js.length ca, .int .i64 ((e89 : Nat) : Int)])]) (bf := fun r => [(true, gm, 61, [.slice r.a ks88.length r.c, .slice aa js.length ca, .int .i64 ((e89 : Nat) : Int)])]) (bf2 := fun r => []) rfl rfl rfl rfl rfl (Try.call44 _) rfl rfl (by decide) (by decide) (fun Z X hm => shuffle_c gm am cm vs aa ca us G xs ts ks js er 1 ([]) none 0 ks88 e89 (ok.mono (by decide)) (by decide) (by decide) hks88 _ _ _ hm) (fun _ => rfl) (fun _ => rfl) (fun _ => rfl) (fun _ => rfl) (fun _ => rfl) rfl fun ⟨ad90, cp91, vs92, G93⟩ ac w hs => ?_))
                      refine wpList_nil ?_
                      refine blk_n ?_
                      refine then_n ?_
                      refine wp_seq ?_
                      replace hs : St 90 ⟨w0, [], [(true, .own (.slice ad90 ks88.length cp91) 34 1 ks88.length vs92), (true, .own (.slice aa js.length ca) 34 1 js.length us), (true, .bysO G93 (vs92 ++ us ++ xs) (ks88 ++ js ++ ts)), (true, .cel (.slice none (([] : List Nat).length) 0) (([] : List Nat).length) (intL []))], Z, X⟩ [(4, true, .bool false)] [(true, gm, 61, [.slice ad90 ks88.length cp91, .slice aa js.length ca, .int .i64 ((e89 : Nat) : Int)])] ac _ := hs.re ⟨rfl, trivial⟩
                      refine wp_region_lit ?_
                      refine lstep (wpO_plain rfl (op_assign hs none rfl rfl rfl rfl fun ac hs => ?_))
                      refine wpList_nil ?_
                      refine then_n ?_
                      refine wp_ret ?_
                      have HS := hs
                      have h0 := hp
                      unfold movL at h0
                      rw [if_neg hp2, if_neg hp16, if_neg hp28, if_neg hp36, if_neg hp46, if_neg hp56, if_neg hp66, if_neg hp76, if_neg hp86, if_pos hp87] at h0
                      simp only [hks88] at h0
                      obtain ⟨hq, hk, hj, he⟩ := inj4 h0
                      subst hq
                      subst hk
                      subst hj
                      subst he
                      have hs := HS
                      exact bodyPost_ret (res1 rfl (rv_t hs rfl)) hs.defers ⟨⟨ad90, cp91, vs92, aa, ca, us, G93⟩, rfl, ((hs.selS [0, 1, 2] rfl (by decide)).selB [0] rfl (by decide)).mem⟩
                    · skip
                      have hp94 := of_decide_eq_false hc
                      refine wp_seq ?_
                      refine wp_region_lit ?_
                      refine lstep (wpO_plain rfl (op_bin hs none (v := .bool (decide (op = 118))) rfl rfl rfl rfl (fun _ => rfl) (bin_eqlN (x := op) (y := 118)) rfl fun ac hs => ?_))
                      refine lstep (wpO_plain rfl (op_assign hs none rfl rfl rfl rfl fun ac hs => ?_))
                      refine wpList_nil ?_
                      refine then_n ?_
                      refine wp_cond_split (hs.ev rfl) (fun hc => ?_) (fun hc => ?_)
                      · skip
                        have hp95 := of_decide_eq_true hc
                        replace hs : St 90 ⟨w0, [], [(true, .own (.slice am ks.length cm) 34 1 ks.length vs), (true, .own (.slice aa js.length ca) 34 1 js.length us), (true, .bysO G (vs ++ us ++ xs) (ks ++ js ++ ts))], Z, X⟩ [(0, true, .pointer (some ⟨gm, 0, none⟩)), (4, true, .bool false)] [(true, gm, 61, [.slice am ks.length cm, .slice aa js.length ca, .int .i64 ((er : Nat) : Int)])] ac _ := hs.re ⟨rfl, rfl, trivial⟩
                        refine wp_region_lit ?_
                        refine lstep (wpO_plain rfl (op_move hs none rfl rfl rfl rfl fun ac hs => ?_))
                        refine lstep (wpO_plain rfl (op_bsO hs none none (qs := [(0, .int .i64 0), (1, .int .i64 0)]) (cs := [.int .i64 0, .int .i64 0]) rfl rfl rfl rfl Try.underlying78 inf_i64_3 (by decide) (by decide) (by kernel_rfl) rfl rfl rfl rfl fun ad97 ac w hs => ?_))
                        replace hs := hs.freeze 3 rfl
                        replace hs := hs.celEq 3 (N' := ([0, 0] : List Nat).length) (cs' := intL [0, 0]) rfl rfl rfl
                        obtain ⟨ks98, e99, hks98⟩ : ∃ z0 z1, shufL 1 ([0, 0]) ks er = (z0, z1) := ⟨_, _, rfl⟩
                        have oks98 := shuf_ok ok (show ([0, 0] : List Nat).length ≤ 6 by decide) hks98
                        refine lstep (wpO_plain rfl (op_callX (F := 44) (ρ := M1) hs none none [0] [0, 1, 2, 3] (v := fun r => .tuple #[]) (S1 := [(true, .own (.slice am ks.length cm) 34 1 ks.length vs), (true, .own (.slice aa js.length ca) 34 1 js.length us), (true, .bysO G (vs ++ us ++ xs) (ks ++ js ++ ts)), (true, .cel (.slice ad97 (([0, 0] : List Nat).length) 2) (([0, 0] : List Nat).length) (intL [0, 0]))]) (bs1 := [(true, gm, 61, [.slice am ks.length cm, .slice aa js.length ca, .int .i64 ((er : Nat) : Int)])]) (E := fun r => [(true, .own (.slice r.a ks98.length r.c) 34 1 ks98.length r.vs), (true, .own (.slice aa js.length ca) 34 1 js.length us), (true, .bysO r.G (r.vs ++ us ++ xs) (ks98 ++ js ++ ts)), (true, .cel (.slice ad97 (([0, 0] : List Nat).length) 2) (([0, 0] : List Nat).length) (intL [0, 0]))]) (E1 := fun r => [(true, .own (.slice r.a ks98.length r.c) 34 1 ks98.length r.vs), (true, .own (.slice aa js.length ca) 34 1 js.length us), (true, .bysO r.G (r.vs ++ us ++ xs) (ks98 ++ js ++ ts)), (true, .cel (.slice ad97 (([0, 0] : List Nat).length) 2) (([0, 0] : List Nat).length) (intL [0, 0]))]) (E2 := fun r => []) (bfA := fun r => [(true, gm, 61, [.slice r.a ks98.length r.c, .slice aa js.length ca, .int .i64 ((e99 : Nat) : Int)])]) (bf := fun r => [(true, gm, 61, [.slice r.a ks98.length r.c, .slice aa js.length ca, .int .i64 ((e99 : Nat) : Int)])]) (bf2 := fun r => []) rfl rfl rfl rfl rfl (Try.call44 _) rfl rfl (by decide) (by decide) (fun Z X hm => shuffle_c gm am cm vs aa ca us G xs ts ks js er 1 ([0, 0]) ad97 2 ks98 e99 (ok.mono (by decide)) (by decide) (by decide) hks98 _ _ _ hm) (fun _ => rfl) (fun _ => rfl) (fun _ => rfl) (fun _ => rfl) (fun _ => rfl) rfl fun ⟨ad100, cp101, vs102, G103⟩ ac w hs => ?_))
                        refine wpList_nil ?_
                        refine blk_n ?_
                        refine then_n ?_
                        refine wp_seq ?_
                        refine wp_region_lit ?_
                        refine lstep (wpO_plain rfl (op_assign hs none rfl rfl rfl rfl fun ac hs => ?_))
                        refine wpList_nil ?_
                        refine then_n ?_
                        refine wp_ret ?_
                        have HS := hs
                        have h0 := hp
                        unfold movL at h0
                        rw [if_neg hp2, if_neg hp16, if_neg hp28, if_neg hp36, if_neg hp46, if_neg hp56, if_neg hp66, if_neg hp76, if_neg hp86, if_neg hp94, if_pos hp95] at h0
                        simp only [hks98] at h0
                        obtain ⟨hq, hk, hj, he⟩ := inj4 h0
                        subst hq
                        subst hk
                        subst hj
                        subst he
                        have hs := HS
                        exact bodyPost_ret (res1 rfl (rv_t hs rfl)) hs.defers ⟨⟨ad100, cp101, vs102, aa, ca, us, G103⟩, rfl, ((hs.selS [0, 1, 2] rfl (by decide)).selB [0] rfl (by decide)).mem⟩
                      · skip
                        have hp104 := of_decide_eq_false hc
                        refine wp_seq ?_
                        replace hs : St 90 ⟨w0, [], [(true, .own (.slice am ks.length cm) 34 1 ks.length vs), (true, .own (.slice aa js.length ca) 34 1 js.length us), (true, .bysO G (vs ++ us ++ xs) (ks ++ js ++ ts))], Z, X⟩ [(0, true, .pointer (some ⟨gm, 0, none⟩)), (4, true, .bool false), (6, true, .int .u8 ((op : Nat) : Int))] [(true, gm, 61, [.slice am ks.length cm, .slice aa js.length ca, .int .i64 ((er : Nat) : Int)])] ac _ := hs.re ⟨rfl, rfl, rfl, trivial⟩
                        refine wp_region_lit ?_
                        refine lstep (wpO_plain rfl (op_bin hs none (v := .bool (decide (op = 119))) rfl rfl rfl rfl (fun _ => rfl) (bin_eqlN (x := op) (y := 119)) rfl fun ac hs => ?_))
                        refine lstep (wpO_plain rfl (op_assign hs none rfl rfl rfl rfl fun ac hs => ?_))
                        refine wpList_nil ?_
                        refine then_n ?_
                        refine wp_cond_split (hs.ev rfl) (fun hc => ?_) (fun hc => ?_)
                        · skip
                          have hp105 := of_decide_eq_true hc
                          refine wp_region_lit ?_
                          refine lstep (wpO_plain rfl (op_move hs none rfl rfl rfl rfl fun ac hs => ?_))
                          refine lstep (wpO_plain rfl (op_bsO hs none none (qs := [(0, .int .i64 1)]) (cs := [.int .i64 1]) rfl rfl rfl rfl Try.underlying78 inf_i64_3 (by decide) (by decide) (by kernel_rfl) rfl rfl rfl rfl fun ad107 ac w hs => ?_))
                          replace hs := hs.freeze 3 rfl
                          replace hs := hs.celEq 3 (N' := ([1] : List Nat).length) (cs' := intL [1]) rfl rfl rfl
                          obtain ⟨ks108, e109, hks108⟩ : ∃ z0 z1, shufL 2 ([1]) ks er = (z0, z1) := ⟨_, _, rfl⟩
                          have oks108 := shuf_ok ok (show ([1] : List Nat).length ≤ 6 by decide) hks108
                          refine lstep (wpO_plain rfl (op_callX (F := 44) (ρ := M1) hs none none [0] [0, 1, 2, 3] (v := fun r => .tuple #[]) (S1 := [(true, .own (.slice am ks.length cm) 34 1 ks.length vs), (true, .own (.slice aa js.length ca) 34 1 js.length us), (true, .bysO G (vs ++ us ++ xs) (ks ++ js ++ ts)), (true, .cel (.slice ad107 (([1] : List Nat).length) 1) (([1] : List Nat).length) (intL [1]))]) (bs1 := [(true, gm, 61, [.slice am ks.length cm, .slice aa js.length ca, .int .i64 ((er : Nat) : Int)])]) (E := fun r => [(true, .own (.slice r.a ks108.length r.c) 34 1 ks108.length r.vs), (true, .own (.slice aa js.length ca) 34 1 js.length us), (true, .bysO r.G (r.vs ++ us ++ xs) (ks108 ++ js ++ ts)), (true, .cel (.slice ad107 (([1] : List Nat).length) 1) (([1] : List Nat).length) (intL [1]))]) (E1 := fun r => [(true, .own (.slice r.a ks108.length r.c) 34 1 ks108.length r.vs), (true, .own (.slice aa js.length ca) 34 1 js.length us), (true, .bysO r.G (r.vs ++ us ++ xs) (ks108 ++ js ++ ts)), (true, .cel (.slice ad107 (([1] : List Nat).length) 1) (([1] : List Nat).length) (intL [1]))]) (E2 := fun r => []) (bfA := fun r => [(true, gm, 61, [.slice r.a ks108.length r.c, .slice aa js.length ca, .int .i64 ((e109 : Nat) : Int)])]) (bf := fun r => [(true, gm, 61, [.slice r.a ks108.length r.c, .slice aa js.length ca, .int .i64 ((e109 : Nat) : Int)])]) (bf2 := fun r => []) rfl rfl rfl rfl rfl (Try.call44 _) rfl rfl (by decide) (by decide) (fun Z X hm => shuffle_c gm am cm vs aa ca us G xs ts ks js er 2 ([1]) ad107 1 ks108 e109 (ok.mono (by decide)) (by decide) (by decide) hks108 _ _ _ hm) (fun _ => rfl) (fun _ => rfl) (fun _ => rfl) (fun _ => rfl) (fun _ => rfl) rfl fun ⟨ad110, cp111, vs112, G113⟩ ac w hs => ?_))
                          refine wpList_nil ?_
                          refine blk_n ?_
                          refine then_n ?_
                          refine wp_seq ?_
                          refine wp_region_lit ?_
                          refine lstep (wpO_plain rfl (op_assign hs none rfl rfl rfl rfl fun ac hs => ?_))
                          refine wpList_nil ?_
                          refine then_n ?_
                          refine wp_ret ?_
                          have HS := hs
                          have h0 := hp
                          unfold movL at h0
                          rw [if_neg hp2, if_neg hp16, if_neg hp28, if_neg hp36, if_neg hp46, if_neg hp56, if_neg hp66, if_neg hp76, if_neg hp86, if_neg hp94, if_neg hp104, if_pos hp105] at h0
                          simp only [hks108] at h0
                          obtain ⟨hq, hk, hj, he⟩ := inj4 h0
                          subst hq
                          subst hk
                          subst hj
                          subst he
                          have hs := HS
                          exact bodyPost_ret (res1 rfl (rv_t hs rfl)) hs.defers ⟨⟨ad110, cp111, vs112, aa, ca, us, G113⟩, rfl, ((hs.selS [0, 1, 2] rfl (by decide)).selB [0] rfl (by decide)).mem⟩
                        · skip
                          have hp114 := of_decide_eq_false hc
                          refine wp_seq ?_
                          refine wp_region_lit ?_
                          refine lstep (wpO_plain rfl (op_bin hs none (v := .bool (decide (op = 120))) rfl rfl rfl rfl (fun _ => rfl) (bin_eqlN (x := op) (y := 120)) rfl fun ac hs => ?_))
                          refine lstep (wpO_plain rfl (op_assign hs none rfl rfl rfl rfl fun ac hs => ?_))
                          refine wpList_nil ?_
                          refine then_n ?_
                          refine wp_cond_split (hs.ev rfl) (fun hc => ?_) (fun hc => ?_)
                          · skip
                            have hp115 := of_decide_eq_true hc
                            refine wp_region_lit ?_
                            refine lstep (wpO_plain rfl (op_move hs none rfl rfl rfl rfl fun ac hs => ?_))
                            refine lstep (wpO_plain rfl (op_bsO hs none none (qs := [(0, .int .i64 0), (1, .int .i64 1), (2, .int .i64 0)]) (cs := [.int .i64 0, .int .i64 1, .int .i64 0]) rfl rfl rfl rfl Try.underlying78 inf_i64_3 (by decide) (by decide) (by kernel_rfl) rfl rfl rfl rfl fun ad117 ac w hs => ?_))
                            replace hs := hs.freeze 3 rfl
                            replace hs := hs.celEq 3 (N' := ([0, 1, 0] : List Nat).length) (cs' := intL [0, 1, 0]) rfl rfl rfl
                            obtain ⟨ks118, e119, hks118⟩ : ∃ z0 z1, shufL 2 ([0, 1, 0]) ks er = (z0, z1) := ⟨_, _, rfl⟩
                            have oks118 := shuf_ok ok (show ([0, 1, 0] : List Nat).length ≤ 6 by decide) hks118
                            refine lstep (wpO_plain rfl (op_callX (F := 44) (ρ := M1) hs none none [0] [0, 1, 2, 3] (v := fun r => .tuple #[]) (S1 := [(true, .own (.slice am ks.length cm) 34 1 ks.length vs), (true, .own (.slice aa js.length ca) 34 1 js.length us), (true, .bysO G (vs ++ us ++ xs) (ks ++ js ++ ts)), (true, .cel (.slice ad117 (([0, 1, 0] : List Nat).length) 3) (([0, 1, 0] : List Nat).length) (intL [0, 1, 0]))]) (bs1 := [(true, gm, 61, [.slice am ks.length cm, .slice aa js.length ca, .int .i64 ((er : Nat) : Int)])]) (E := fun r => [(true, .own (.slice r.a ks118.length r.c) 34 1 ks118.length r.vs), (true, .own (.slice aa js.length ca) 34 1 js.length us), (true, .bysO r.G (r.vs ++ us ++ xs) (ks118 ++ js ++ ts)), (true, .cel (.slice ad117 (([0, 1, 0] : List Nat).length) 3) (([0, 1, 0] : List Nat).length) (intL [0, 1, 0]))]) (E1 := fun r => [(true, .own (.slice r.a ks118.length r.c) 34 1 ks118.length r.vs), (true, .own (.slice aa js.length ca) 34 1 js.length us), (true, .bysO r.G (r.vs ++ us ++ xs) (ks118 ++ js ++ ts)), (true, .cel (.slice ad117 (([0, 1, 0] : List Nat).length) 3) (([0, 1, 0] : List Nat).length) (intL [0, 1, 0]))]) (E2 := fun r => []) (bfA := fun r => [(true, gm, 61, [.slice r.a ks118.length r.c, .slice aa js.length ca, .int .i64 ((e119 : Nat) : Int)])]) (bf := fun r => [(true, gm, 61, [.slice r.a ks118.length r.c, .slice aa js.length ca, .int .i64 ((e119 : Nat) : Int)])]) (bf2 := fun r => []) rfl rfl rfl rfl rfl (Try.call44 _) rfl rfl (by decide) (by decide) (fun Z X hm => shuffle_c gm am cm vs aa ca us G xs ts ks js er 2 ([0, 1, 0]) ad117 3 ks118 e119 (ok.mono (by decide)) (by decide) (by decide) hks118 _ _ _ hm) (fun _ => rfl) (fun _ => rfl) (fun _ => rfl) (fun _ => rfl) (fun _ => rfl) rfl fun ⟨ad120, cp121, vs122, G123⟩ ac w hs => ?_))
                            refine wpList_nil ?_
                            refine blk_n ?_
                            refine then_n ?_
                            refine wp_seq ?_
                            replace hs : St 90 ⟨w0, [], [(true, .own (.slice ad120 ks118.length cp121) 34 1 ks118.length vs122), (true, .own (.slice aa js.length ca) 34 1 js.length us), (true, .bysO G123 (vs122 ++ us ++ xs) (ks118 ++ js ++ ts)), (true, .cel (.slice ad117 (([0, 1, 0] : List Nat).length) 3) (([0, 1, 0] : List Nat).length) (intL [0, 1, 0]))], Z, X⟩ [(4, true, .bool false)] [(true, gm, 61, [.slice ad120 ks118.length cp121, .slice aa js.length ca, .int .i64 ((e119 : Nat) : Int)])] ac _ := hs.re ⟨rfl, trivial⟩
                            refine wp_region_lit ?_
                            refine lstep (wpO_plain rfl (op_assign hs none rfl rfl rfl rfl fun ac hs => ?_))
                            refine wpList_nil ?_
                            refine then_n ?_
                            refine wp_ret ?_
                            have HS := hs
                            have h0 := hp
                            unfold movL at h0
                            rw [if_neg hp2, if_neg hp16, if_neg hp28, if_neg hp36, if_neg hp46, if_neg hp56, if_neg hp66, if_neg hp76, if_neg hp86, if_neg hp94, if_neg hp104, if_neg hp114, if_pos hp115] at h0
                            simp only [hks118] at h0
                            obtain ⟨hq, hk, hj, he⟩ := inj4 h0
                            subst hq
                            subst hk
                            subst hj
                            subst he
                            have hs := HS
                            exact bodyPost_ret (res1 rfl (rv_t hs rfl)) hs.defers ⟨⟨ad120, cp121, vs122, aa, ca, us, G123⟩, rfl, ((hs.selS [0, 1, 2] rfl (by decide)).selB [0] rfl (by decide)).mem⟩
                          · skip
                            have hp124 := of_decide_eq_false hc
                            refine wp_seq ?_
                            refine wp_region_lit ?_
                            refine lstep (wpO_plain rfl (op_bin hs none (v := .bool (decide (op = 123))) rfl rfl rfl rfl (fun _ => rfl) (bin_eqlN (x := op) (y := 123)) rfl fun ac hs => ?_))
                            refine lstep (wpO_plain rfl (op_assign hs none rfl rfl rfl rfl fun ac hs => ?_))
                            refine wpList_nil ?_
                            refine then_n ?_
                            refine wp_cond_split (hs.ev rfl) (fun hc => ?_) (fun hc => ?_)
                            · skip
                              have hp125 := of_decide_eq_true hc
                              replace hs : St 90 ⟨w0, [], [(true, .own (.slice am ks.length cm) 34 1 ks.length vs), (true, .own (.slice aa js.length ca) 34 1 js.length us), (true, .bysO G (vs ++ us ++ xs) (ks ++ js ++ ts))], Z, X⟩ [(0, true, .pointer (some ⟨gm, 0, none⟩)), (4, true, .bool false)] [(true, gm, 61, [.slice am ks.length cm, .slice aa js.length ca, .int .i64 ((er : Nat) : Int)])] ac _ := hs.re ⟨rfl, rfl, trivial⟩
                              refine wp_region_lit ?_
                              refine lstep (wpO_plain rfl (op_move hs none rfl rfl rfl rfl fun ac hs => ?_))
                              refine lstep (wpO_plain rfl (op_bsO hs none none (qs := [(0, .int .i64 1), (1, .int .i64 2), (2, .int .i64 0)]) (cs := [.int .i64 1, .int .i64 2, .int .i64 0]) rfl rfl rfl rfl Try.underlying78 inf_i64_3 (by decide) (by decide) (by kernel_rfl) rfl rfl rfl rfl fun ad127 ac w hs => ?_))
                              replace hs := hs.freeze 3 rfl
                              replace hs := hs.celEq 3 (N' := ([1, 2, 0] : List Nat).length) (cs' := intL [1, 2, 0]) rfl rfl rfl
                              obtain ⟨ks128, e129, hks128⟩ : ∃ z0 z1, shufL 3 ([1, 2, 0]) ks er = (z0, z1) := ⟨_, _, rfl⟩
                              have oks128 := shuf_ok ok (show ([1, 2, 0] : List Nat).length ≤ 6 by decide) hks128
                              refine lstep (wpO_plain rfl (op_callX (F := 44) (ρ := M1) hs none none [0] [0, 1, 2, 3] (v := fun r => .tuple #[]) (S1 := [(true, .own (.slice am ks.length cm) 34 1 ks.length vs), (true, .own (.slice aa js.length ca) 34 1 js.length us), (true, .bysO G (vs ++ us ++ xs) (ks ++ js ++ ts)), (true, .cel (.slice ad127 (([1, 2, 0] : List Nat).length) 3) (([1, 2, 0] : List Nat).length) (intL [1, 2, 0]))]) (bs1 := [(true, gm, 61, [.slice am ks.length cm, .slice aa js.length ca, .int .i64 ((er : Nat) : Int)])]) (E := fun r => [(true, .own (.slice r.a ks128.length r.c) 34 1 ks128.length r.vs), (true, .own (.slice aa js.length ca) 34 1 js.length us), (true, .bysO r.G (r.vs ++ us ++ xs) (ks128 ++ js ++ ts)), (true, .cel (.slice ad127 (([1, 2, 0] : List Nat).length) 3) (([1, 2, 0] : List Nat).length) (intL [1, 2, 0]))]) (E1 := fun r => [(true, .own (.slice r.a ks128.length r.c) 34 1 ks128.length r.vs), (true, .own (.slice aa js.length ca) 34 1 js.length us), (true, .bysO r.G (r.vs ++ us ++ xs) (ks128 ++ js ++ ts)), (true, .cel (.slice ad127 (([1, 2, 0] : List Nat).length) 3) (([1, 2, 0] : List Nat).length) (intL [1, 2, 0]))]) (E2 := fun r => []) (bfA := fun r => [(true, gm, 61, [.slice r.a ks128.length r.c, .slice aa js.length ca, .int .i64 ((e129 : Nat) : Int)])]) (bf := fun r => [(true, gm, 61, [.slice r.a ks128.length r.c, .slice aa js.length ca, .int .i64 ((e129 : Nat) : Int)])]) (bf2 := fun r => []) rfl rfl rfl rfl rfl (Try.call44 _) rfl rfl (by decide) (by decide) (fun Z X hm => shuffle_c gm am cm vs aa ca us G xs ts ks js er 3 ([1, 2, 0]) ad127 3 ks128 e129 (ok.mono (by decide)) (by decide) (by decide) hks128 _ _ _ hm) (fun _ => rfl) (fun _ => rfl) (fun _ => rfl) (fun _ => rfl) (fun _ => rfl) rfl fun ⟨ad130, cp131, vs132, G133⟩ ac w hs => ?_))
                              refine wpList_nil ?_
                              refine blk_n ?_
                              refine then_n ?_
                              refine wp_seq ?_
                              refine wp_region_lit ?_
                              refine lstep (wpO_plain rfl (op_assign hs none rfl rfl rfl rfl fun ac hs => ?_))
                              refine wpList_nil ?_
                              refine then_n ?_
                              refine wp_ret ?_
                              have HS := hs
                              have h0 := hp
                              unfold movL at h0
                              rw [if_neg hp2, if_neg hp16, if_neg hp28, if_neg hp36, if_neg hp46, if_neg hp56, if_neg hp66, if_neg hp76, if_neg hp86, if_neg hp94, if_neg hp104, if_neg hp114, if_neg hp124, if_pos hp125] at h0
                              simp only [hks128] at h0
                              obtain ⟨hq, hk, hj, he⟩ := inj4 h0
                              subst hq
                              subst hk
                              subst hj
                              subst he
                              have hs := HS
                              exact bodyPost_ret (res1 rfl (rv_t hs rfl)) hs.defers ⟨⟨ad130, cp131, vs132, aa, ca, us, G133⟩, rfl, ((hs.selS [0, 1, 2] rfl (by decide)).selB [0] rfl (by decide)).mem⟩
                            · skip
                              have hp134 := of_decide_eq_false hc
                              refine wp_seq ?_
                              replace hs : St 90 ⟨w0, [], [(true, .own (.slice am ks.length cm) 34 1 ks.length vs), (true, .own (.slice aa js.length ca) 34 1 js.length us), (true, .bysO G (vs ++ us ++ xs) (ks ++ js ++ ts))], Z, X⟩ [(0, true, .pointer (some ⟨gm, 0, none⟩)), (4, true, .bool false), (6, true, .int .u8 ((op : Nat) : Int))] [(true, gm, 61, [.slice am ks.length cm, .slice aa js.length ca, .int .i64 ((er : Nat) : Int)])] ac _ := hs.re ⟨rfl, rfl, rfl, trivial⟩
                              refine wp_region_lit ?_
                              refine lstep (wpO_plain rfl (op_bin hs none (v := .bool (decide (op = 124))) rfl rfl rfl rfl (fun _ => rfl) (bin_eqlN (x := op) (y := 124)) rfl fun ac hs => ?_))
                              refine lstep (wpO_plain rfl (op_assign hs none rfl rfl rfl rfl fun ac hs => ?_))
                              refine wpList_nil ?_
                              refine then_n ?_
                              refine wp_cond_split (hs.ev rfl) (fun hc => ?_) (fun hc => ?_)
                              · skip
                                have hp135 := of_decide_eq_true hc
                                refine wp_region_lit ?_
                                refine lstep (wpO_plain rfl (op_move hs none rfl rfl rfl rfl fun ac hs => ?_))
                                refine lstep (wpO_plain rfl (op_bsO hs none none (qs := [(0, .int .i64 1), (1, .int .i64 0)]) (cs := [.int .i64 1, .int .i64 0]) rfl rfl rfl rfl Try.underlying78 inf_i64_3 (by decide) (by decide) (by kernel_rfl) rfl rfl rfl rfl fun ad137 ac w hs => ?_))
                                replace hs := hs.freeze 3 rfl
                                replace hs := hs.celEq 3 (N' := ([1, 0] : List Nat).length) (cs' := intL [1, 0]) rfl rfl rfl
                                obtain ⟨ks138, e139, hks138⟩ : ∃ z0 z1, shufL 2 ([1, 0]) ks er = (z0, z1) := ⟨_, _, rfl⟩
                                have oks138 := shuf_ok ok (show ([1, 0] : List Nat).length ≤ 6 by decide) hks138
                                refine lstep (wpO_plain rfl (op_callX (F := 44) (ρ := M1) hs none none [0] [0, 1, 2, 3] (v := fun r => .tuple #[]) (S1 := [(true, .own (.slice am ks.length cm) 34 1 ks.length vs), (true, .own (.slice aa js.length ca) 34 1 js.length us), (true, .bysO G (vs ++ us ++ xs) (ks ++ js ++ ts)), (true, .cel (.slice ad137 (([1, 0] : List Nat).length) 2) (([1, 0] : List Nat).length) (intL [1, 0]))]) (bs1 := [(true, gm, 61, [.slice am ks.length cm, .slice aa js.length ca, .int .i64 ((er : Nat) : Int)])]) (E := fun r => [(true, .own (.slice r.a ks138.length r.c) 34 1 ks138.length r.vs), (true, .own (.slice aa js.length ca) 34 1 js.length us), (true, .bysO r.G (r.vs ++ us ++ xs) (ks138 ++ js ++ ts)), (true, .cel (.slice ad137 (([1, 0] : List Nat).length) 2) (([1, 0] : List Nat).length) (intL [1, 0]))]) (E1 := fun r => [(true, .own (.slice r.a ks138.length r.c) 34 1 ks138.length r.vs), (true, .own (.slice aa js.length ca) 34 1 js.length us), (true, .bysO r.G (r.vs ++ us ++ xs) (ks138 ++ js ++ ts)), (true, .cel (.slice ad137 (([1, 0] : List Nat).length) 2) (([1, 0] : List Nat).length) (intL [1, 0]))]) (E2 := fun r => []) (bfA := fun r => [(true, gm, 61, [.slice r.a ks138.length r.c, .slice aa js.length ca, .int .i64 ((e139 : Nat) : Int)])]) (bf := fun r => [(true, gm, 61, [.slice r.a ks138.length r.c, .slice aa js.length ca, .int .i64 ((e139 : Nat) : Int)])]) (bf2 := fun r => []) rfl rfl rfl rfl rfl (Try.call44 _) rfl rfl (by decide) (by decide) (fun Z X hm => shuffle_c gm am cm vs aa ca us G xs ts ks js er 2 ([1, 0]) ad137 2 ks138 e139 (ok.mono (by decide)) (by decide) (by decide) hks138 _ _ _ hm) (fun _ => rfl) (fun _ => rfl) (fun _ => rfl) (fun _ => rfl) (fun _ => rfl) rfl fun ⟨ad140, cp141, vs142, G143⟩ ac w hs => ?_))
                                refine wpList_nil ?_
                                refine blk_n ?_
                                refine then_n ?_
                                refine wp_seq ?_
                                refine wp_region_lit ?_
                                refine lstep (wpO_plain rfl (op_assign hs none rfl rfl rfl rfl fun ac hs => ?_))
                                refine wpList_nil ?_
                                refine then_n ?_
                                refine wp_ret ?_
                                have HS := hs
                                have h0 := hp
                                unfold movL at h0
                                rw [if_neg hp2, if_neg hp16, if_neg hp28, if_neg hp36, if_neg hp46, if_neg hp56, if_neg hp66, if_neg hp76, if_neg hp86, if_neg hp94, if_neg hp104, if_neg hp114, if_neg hp124, if_neg hp134, if_pos hp135] at h0
                                simp only [hks138] at h0
                                obtain ⟨hq, hk, hj, he⟩ := inj4 h0
                                subst hq
                                subst hk
                                subst hj
                                subst he
                                have hs := HS
                                exact bodyPost_ret (res1 rfl (rv_t hs rfl)) hs.defers ⟨⟨ad140, cp141, vs142, aa, ca, us, G143⟩, rfl, ((hs.selS [0, 1, 2] rfl (by decide)).selB [0] rfl (by decide)).mem⟩
                              · skip
                                have hp144 := of_decide_eq_false hc
                                refine wp_seq ?_
                                refine wp_region_lit ?_
                                refine lstep (wpO_plain rfl (op_bin hs none (v := .bool (decide (op = 125))) rfl rfl rfl rfl (fun _ => rfl) (bin_eqlN (x := op) (y := 125)) rfl fun ac hs => ?_))
                                refine lstep (wpO_plain rfl (op_assign hs none rfl rfl rfl rfl fun ac hs => ?_))
                                refine wpList_nil ?_
                                refine then_n ?_
                                refine wp_cond_split (hs.ev rfl) (fun hc => ?_) (fun hc => ?_)
                                · skip
                                  have hp145 := of_decide_eq_true hc
                                  refine wp_region_lit ?_
                                  refine lstep (wpO_plain rfl (op_move hs none rfl rfl rfl rfl fun ac hs => ?_))
                                  refine lstep (wpO_plain rfl (op_bsO hs none none (qs := [(0, .int .i64 1), (1, .int .i64 0), (2, .int .i64 1)]) (cs := [.int .i64 1, .int .i64 0, .int .i64 1]) rfl rfl rfl rfl Try.underlying78 inf_i64_3 (by decide) (by decide) (by kernel_rfl) rfl rfl rfl rfl fun ad147 ac w hs => ?_))
                                  replace hs := hs.freeze 3 rfl
                                  replace hs := hs.celEq 3 (N' := ([1, 0, 1] : List Nat).length) (cs' := intL [1, 0, 1]) rfl rfl rfl
                                  obtain ⟨ks148, e149, hks148⟩ : ∃ z0 z1, shufL 2 ([1, 0, 1]) ks er = (z0, z1) := ⟨_, _, rfl⟩
                                  have oks148 := shuf_ok ok (show ([1, 0, 1] : List Nat).length ≤ 6 by decide) hks148
                                  refine lstep (wpO_plain rfl (op_callX (F := 44) (ρ := M1) hs none none [0] [0, 1, 2, 3] (v := fun r => .tuple #[]) (S1 := [(true, .own (.slice am ks.length cm) 34 1 ks.length vs), (true, .own (.slice aa js.length ca) 34 1 js.length us), (true, .bysO G (vs ++ us ++ xs) (ks ++ js ++ ts)), (true, .cel (.slice ad147 (([1, 0, 1] : List Nat).length) 3) (([1, 0, 1] : List Nat).length) (intL [1, 0, 1]))]) (bs1 := [(true, gm, 61, [.slice am ks.length cm, .slice aa js.length ca, .int .i64 ((er : Nat) : Int)])]) (E := fun r => [(true, .own (.slice r.a ks148.length r.c) 34 1 ks148.length r.vs), (true, .own (.slice aa js.length ca) 34 1 js.length us), (true, .bysO r.G (r.vs ++ us ++ xs) (ks148 ++ js ++ ts)), (true, .cel (.slice ad147 (([1, 0, 1] : List Nat).length) 3) (([1, 0, 1] : List Nat).length) (intL [1, 0, 1]))]) (E1 := fun r => [(true, .own (.slice r.a ks148.length r.c) 34 1 ks148.length r.vs), (true, .own (.slice aa js.length ca) 34 1 js.length us), (true, .bysO r.G (r.vs ++ us ++ xs) (ks148 ++ js ++ ts)), (true, .cel (.slice ad147 (([1, 0, 1] : List Nat).length) 3) (([1, 0, 1] : List Nat).length) (intL [1, 0, 1]))]) (E2 := fun r => []) (bfA := fun r => [(true, gm, 61, [.slice r.a ks148.length r.c, .slice aa js.length ca, .int .i64 ((e149 : Nat) : Int)])]) (bf := fun r => [(true, gm, 61, [.slice r.a ks148.length r.c, .slice aa js.length ca, .int .i64 ((e149 : Nat) : Int)])]) (bf2 := fun r => []) rfl rfl rfl rfl rfl (Try.call44 _) rfl rfl (by decide) (by decide) (fun Z X hm => shuffle_c gm am cm vs aa ca us G xs ts ks js er 2 ([1, 0, 1]) ad147 3 ks148 e149 (ok.mono (by decide)) (by decide) (by decide) hks148 _ _ _ hm) (fun _ => rfl) (fun _ => rfl) (fun _ => rfl) (fun _ => rfl) (fun _ => rfl) rfl fun ⟨ad150, cp151, vs152, G153⟩ ac w hs => ?_))
                                  refine wpList_nil ?_
                                  refine blk_n ?_
                                  refine then_n ?_
                                  refine wp_seq ?_
                                  replace hs : St 90 ⟨w0, [], [(true, .own (.slice ad150 ks148.length cp151) 34 1 ks148.length vs152), (true, .own (.slice aa js.length ca) 34 1 js.length us), (true, .bysO G153 (vs152 ++ us ++ xs) (ks148 ++ js ++ ts)), (true, .cel (.slice ad147 (([1, 0, 1] : List Nat).length) 3) (([1, 0, 1] : List Nat).length) (intL [1, 0, 1]))], Z, X⟩ [(4, true, .bool false)] [(true, gm, 61, [.slice ad150 ks148.length cp151, .slice aa js.length ca, .int .i64 ((e149 : Nat) : Int)])] ac _ := hs.re ⟨rfl, trivial⟩
                                  refine wp_region_lit ?_
                                  refine lstep (wpO_plain rfl (op_assign hs none rfl rfl rfl rfl fun ac hs => ?_))
                                  refine wpList_nil ?_
                                  refine then_n ?_
                                  refine wp_ret ?_
                                  have HS := hs
                                  have h0 := hp
                                  unfold movL at h0
                                  rw [if_neg hp2, if_neg hp16, if_neg hp28, if_neg hp36, if_neg hp46, if_neg hp56, if_neg hp66, if_neg hp76, if_neg hp86, if_neg hp94, if_neg hp104, if_neg hp114, if_neg hp124, if_neg hp134, if_neg hp144, if_pos hp145] at h0
                                  simp only [hks148] at h0
                                  obtain ⟨hq, hk, hj, he⟩ := inj4 h0
                                  subst hq
                                  subst hk
                                  subst hj
                                  subst he
                                  have hs := HS
                                  exact bodyPost_ret (res1 rfl (rv_t hs rfl)) hs.defers ⟨⟨ad150, cp151, vs152, aa, ca, us, G153⟩, rfl, ((hs.selS [0, 1, 2] rfl (by decide)).selB [0] rfl (by decide)).mem⟩
                                · skip
                                  have hp154 := of_decide_eq_false hc
                                  refine wp_seq ?_
                                  refine wp_region_lit ?_
                                  refine lstep (wpO_plain rfl (op_assign hs none rfl rfl rfl rfl fun ac hs => ?_))
                                  refine wpList_nil ?_
                                  refine then_n ?_
                                  refine wp_ret ?_
                                  refine blk_r ?_
                                  refine then_r ?_
                                  have HS := hs
                                  have h0 := hp
                                  unfold movL at h0
                                  rw [if_neg hp2, if_neg hp16, if_neg hp28, if_neg hp36, if_neg hp46, if_neg hp56, if_neg hp66, if_neg hp76, if_neg hp86, if_neg hp94, if_neg hp104, if_neg hp114, if_neg hp124, if_neg hp134, if_neg hp144, if_neg hp154] at h0
                                  obtain ⟨hq, hk, hj, he⟩ := inj4 h0
                                  subst hq
                                  subst hk
                                  subst hj
                                  subst he
                                  have hs := HS
                                  exact bodyPost_ret (res1 rfl (rv_t hs rfl)) hs.defers ⟨⟨am, cm, vs, aa, ca, us, G⟩, rfl, ((hs.selS [0, 1, 2] rfl (by decide)).selB [0] rfl (by decide)).mem⟩
theorem reads_c (gm : Nat) (am : Option Addr) (cm : Nat) (vs : List Value) (aa : Option Addr) (ca : Nat) (us : List Value) (G : Nat → Prop) (xs : List Value) (ts : BL) (ks js : BL) (er : Nat) (op : Nat) (q : Bool) (k1 : BL) (e1 : Nat) (ok : OkN 2900 ks) (hp : redL op ks er = (q, k1, e1)) (w0 : World) (Z X : Nat → Prop) (hm : Mem ⟨w0, [], [(true, .own (.slice am ks.length cm) 34 1 ks.length vs), (true, .own (.slice aa js.length ca) 34 1 js.length us), (true, .bysO G (vs ++ us ++ xs) (ks ++ js ++ ts))], Z, X⟩ [(true, gm, 61, [.slice am ks.length cm, .slice aa js.length ca, .int .i64 ((er : Nat) : Int)])] w0) : Calls Try.prog 28 #[.pointer (some ⟨gm, 0, none⟩), .int .u8 ((op : Nat) : Int)] w0 fun e w' => PostX w0 Z X (ρ := M1) (fun r => .bool q) (fun r => [(true, gm, 61, [.slice r.a k1.length r.c, .slice aa js.length ca, .int .i64 ((e1 : Nat) : Int)])]) (fun r => [(true, .own (.slice r.a k1.length r.c) 34 1 k1.length r.vs), (true, .own (.slice aa js.length ca) 34 1 js.length us), (true, .bysO r.G (r.vs ++ us ++ xs) (k1 ++ js ++ ts))]) e w' := by
  have hk8 : ks.length ≤ 2900 := ok.1
  refine enterX (n := 85) (args := [.pointer (some ⟨gm, 0, none⟩), .int .u8 ((op : Nat) : Int)]) Try.func28 rfl rfl (Nat.le_of_ble_eq_true rfl) hm fun ac hs => ?_
  have hv := hs.ownLen 0 rfl
  have hu := hs.ownLen 1 rfl
  refine wp_seq ?_
  refine wp_region_lit ?_
  refine lstep (wpO_plain rfl (op_assign hs none rfl rfl rfl rfl fun ac hs => ?_))
  refine wpList_nil ?_
  refine then_n ?_
  refine wp_seq ?_
  refine wp_seq ?_
  refine wp_region_lit ?_
  refine lstep (wpO_plain rfl (op_move hs none rfl rfl rfl rfl fun ac hs => ?_))
  refine wpList_nil ?_
  refine then_n ?_
  refine wp_block ?_
  refine wp_seq ?_
  refine wp_region_lit ?_
  refine lstep (wpO_plain rfl (op_bin hs none (v := .bool (decide (op = 121))) rfl rfl rfl rfl (fun _ => rfl) (bin_eqlN (x := op) (y := 121)) rfl fun ac hs => ?_))
  refine lstep (wpO_plain rfl (op_assign hs none rfl rfl rfl rfl fun ac hs => ?_))
  refine wpList_nil ?_
  refine then_n ?_
  refine wp_cond_split (hs.ev rfl) (fun hc => ?_) (fun hc => ?_)
  · skip
    have hp1 := of_decide_eq_true hc
    refine wp_region_lit ?_
    refine lstep (wpO_plain rfl (op_move hs none rfl rfl rfl rfl fun ac hs => ?_))
    obtain ⟨ks2, e3, hks2⟩ : ∃ z0 z1, deepL false ks er = (z0, z1) := ⟨_, _, rfl⟩
    have oks2 := deep_ok ok hks2
    refine lstep (wpO_plain rfl (op_callX (F := 45) (ρ := M1) hs none none [0] [0, 1, 2] (v := fun r => .tuple #[]) (S1 := [(true, .own (.slice am ks.length cm) 34 1 ks.length vs), (true, .own (.slice aa js.length ca) 34 1 js.length us), (true, .bysO G (vs ++ us ++ xs) (ks ++ js ++ ts))]) (bs1 := [(true, gm, 61, [.slice am ks.length cm, .slice aa js.length ca, .int .i64 ((er : Nat) : Int)])]) (E := fun r => [(true, .own (.slice r.a ks2.length r.c) 34 1 ks2.length r.vs), (true, .own (.slice aa js.length ca) 34 1 js.length us), (true, .bysO r.G (r.vs ++ us ++ xs) (ks2 ++ js ++ ts))]) (E1 := fun r => [(true, .own (.slice r.a ks2.length r.c) 34 1 ks2.length r.vs), (true, .own (.slice aa js.length ca) 34 1 js.length us), (true, .bysO r.G (r.vs ++ us ++ xs) (ks2 ++ js ++ ts))]) (E2 := fun r => []) (bfA := fun r => [(true, gm, 61, [.slice r.a ks2.length r.c, .slice aa js.length ca, .int .i64 ((e3 : Nat) : Int)])]) (bf := fun r => [(true, gm, 61, [.slice r.a ks2.length r.c, .slice aa js.length ca, .int .i64 ((e3 : Nat) : Int)])]) (bf2 := fun r => []) rfl rfl rfl rfl rfl (Try.call45 _) rfl rfl (by decide) (by decide) (fun Z X hm => deepF_c gm am cm vs aa ca us G xs ts ks js er ks2 e3 (ok.mono (by decide)) hks2 _ _ _ hm) (fun _ => rfl) (fun _ => rfl) (fun _ => rfl) (fun _ => rfl) (fun _ => rfl) rfl fun ⟨ad4, cp5, vs6, G7⟩ ac w hs => ?_))
    refine wpList_nil ?_
    refine blk_n ?_
    refine then_n ?_
    refine wp_seq ?_
    replace hs : St 85 ⟨w0, [], [(true, .own (.slice ad4 ks2.length cp5) 34 1 ks2.length vs6), (true, .own (.slice aa js.length ca) 34 1 js.length us), (true, .bysO G7 (vs6 ++ us ++ xs) (ks2 ++ js ++ ts))], Z, X⟩ [(4, true, .bool false)] [(true, gm, 61, [.slice ad4 ks2.length cp5, .slice aa js.length ca, .int .i64 ((e3 : Nat) : Int)])] ac _ := hs.re ⟨rfl, trivial⟩
    refine wp_region_lit ?_
    refine lstep (wpO_plain rfl (op_assign hs none rfl rfl rfl rfl fun ac hs => ?_))
    refine wpList_nil ?_
    refine then_n ?_
    refine wp_ret ?_
    have HS := hs
    have h0 := hp
    unfold redL at h0
    rw [if_pos hp1] at h0
    simp only [hks2] at h0
    obtain ⟨hq, hk, he⟩ := inj3 h0
    subst hq
    subst hk
    subst he
    have hs := HS
    exact bodyPost_ret (res1 rfl (rv_t hs rfl)) hs.defers ⟨⟨ad4, cp5, vs6, G7⟩, rfl, ((hs.selS [0, 1, 2] rfl (by decide)).selB [0] rfl (by decide)).mem⟩
  · skip
    have hp8 := of_decide_eq_false hc
    refine wp_seq ?_
    refine wp_region_lit ?_
    refine lstep (wpO_plain rfl (op_bin hs none (v := .bool (decide (op = 122))) rfl rfl rfl rfl (fun _ => rfl) (bin_eqlN (x := op) (y := 122)) rfl fun ac hs => ?_))
    refine lstep (wpO_plain rfl (op_assign hs none rfl rfl rfl rfl fun ac hs => ?_))
    refine wpList_nil ?_
    refine then_n ?_
    refine wp_cond_split (hs.ev rfl) (fun hc => ?_) (fun hc => ?_)
    · skip
      have hp9 := of_decide_eq_true hc
      replace hs : St 85 ⟨w0, [], [(true, .own (.slice am ks.length cm) 34 1 ks.length vs), (true, .own (.slice aa js.length ca) 34 1 js.length us), (true, .bysO G (vs ++ us ++ xs) (ks ++ js ++ ts))], Z, X⟩ [(0, true, .pointer (some ⟨gm, 0, none⟩)), (4, true, .bool false)] [(true, gm, 61, [.slice am ks.length cm, .slice aa js.length ca, .int .i64 ((er : Nat) : Int)])] ac _ := hs.re ⟨rfl, rfl, trivial⟩
      refine wp_region_lit ?_
      refine lstep (wpO_plain rfl (op_move hs none rfl rfl rfl rfl fun ac hs => ?_))
      obtain ⟨ks10, e11, hks10⟩ : ∃ z0 z1, deepL true ks er = (z0, z1) := ⟨_, _, rfl⟩
      have oks10 := deep_ok ok hks10
      refine lstep (wpO_plain rfl (op_callX (F := 45) (ρ := M1) hs none none [0] [0, 1, 2] (v := fun r => .tuple #[]) (S1 := [(true, .own (.slice am ks.length cm) 34 1 ks.length vs), (true, .own (.slice aa js.length ca) 34 1 js.length us), (true, .bysO G (vs ++ us ++ xs) (ks ++ js ++ ts))]) (bs1 := [(true, gm, 61, [.slice am ks.length cm, .slice aa js.length ca, .int .i64 ((er : Nat) : Int)])]) (E := fun r => [(true, .own (.slice r.a ks10.length r.c) 34 1 ks10.length r.vs), (true, .own (.slice aa js.length ca) 34 1 js.length us), (true, .bysO r.G (r.vs ++ us ++ xs) (ks10 ++ js ++ ts))]) (E1 := fun r => [(true, .own (.slice r.a ks10.length r.c) 34 1 ks10.length r.vs), (true, .own (.slice aa js.length ca) 34 1 js.length us), (true, .bysO r.G (r.vs ++ us ++ xs) (ks10 ++ js ++ ts))]) (E2 := fun r => []) (bfA := fun r => [(true, gm, 61, [.slice r.a ks10.length r.c, .slice aa js.length ca, .int .i64 ((e11 : Nat) : Int)])]) (bf := fun r => [(true, gm, 61, [.slice r.a ks10.length r.c, .slice aa js.length ca, .int .i64 ((e11 : Nat) : Int)])]) (bf2 := fun r => []) rfl rfl rfl rfl rfl (Try.call45 _) rfl rfl (by decide) (by decide) (fun Z X hm => deepT_c gm am cm vs aa ca us G xs ts ks js er ks10 e11 (ok.mono (by decide)) hks10 _ _ _ hm) (fun _ => rfl) (fun _ => rfl) (fun _ => rfl) (fun _ => rfl) (fun _ => rfl) rfl fun ⟨ad12, cp13, vs14, G15⟩ ac w hs => ?_))
      refine wpList_nil ?_
      refine blk_n ?_
      refine then_n ?_
      refine wp_seq ?_
      refine wp_region_lit ?_
      refine lstep (wpO_plain rfl (op_assign hs none rfl rfl rfl rfl fun ac hs => ?_))
      refine wpList_nil ?_
      refine then_n ?_
      refine wp_ret ?_
      have HS := hs
      have h0 := hp
      unfold redL at h0
      rw [if_neg hp8, if_pos hp9] at h0
      simp only [hks10] at h0
      obtain ⟨hq, hk, he⟩ := inj3 h0
      subst hq
      subst hk
      subst he
      have hs := HS
      exact bodyPost_ret (res1 rfl (rv_t hs rfl)) hs.defers ⟨⟨ad12, cp13, vs14, G15⟩, rfl, ((hs.selS [0, 1, 2] rfl (by decide)).selB [0] rfl (by decide)).mem⟩
    · skip
      have hp16 := of_decide_eq_false hc
      refine wp_seq ?_
      replace hs : St 85 ⟨w0, [], [(true, .own (.slice am ks.length cm) 34 1 ks.length vs), (true, .own (.slice aa js.length ca) 34 1 js.length us), (true, .bysO G (vs ++ us ++ xs) (ks ++ js ++ ts))], Z, X⟩ [(0, true, .pointer (some ⟨gm, 0, none⟩)), (4, true, .bool false), (6, true, .int .u8 ((op : Nat) : Int))] [(true, gm, 61, [.slice am ks.length cm, .slice aa js.length ca, .int .i64 ((er : Nat) : Int)])] ac _ := hs.re ⟨rfl, rfl, rfl, trivial⟩
      refine wp_region_lit ?_
      refine lstep (wpO_plain rfl (op_bin hs none (v := .bool (decide (op = 105))) rfl rfl rfl rfl (fun _ => rfl) (bin_eqlN (x := op) (y := 105)) rfl fun ac hs => ?_))
      refine lstep (wpO_plain rfl (op_assign hs none rfl rfl rfl rfl fun ac hs => ?_))
      refine wpList_nil ?_
      refine then_n ?_
      refine wp_cond_split (hs.ev rfl) (fun hc => ?_) (fun hc => ?_)
      · skip
        have hp17 := of_decide_eq_true hc
        refine wp_seq ?_
        refine wp_region_lit ?_
        refine lstep (wpO_plain rfl (op_move hs none rfl rfl rfl rfl fun ac hs => ?_))
        obtain ⟨p18, ks19, e20, hks19⟩ : ∃ z0 z1 z2, popL ks er = (z0, z1, z2) := ⟨_, _, _, rfl⟩
        obtain ⟨oks19, lp18⟩ := pop_ok ok hks19
        replace lp18 : p18.length ≤ 8000 := Nat.le_trans lp18 (by decide)
        refine lstep (wpO_plain rfl (op_callX (F := 39) (ρ := M1x) hs none none [0] [0, 1, 2] (v := fun r => .slice r.x p18.length r.y) (S1 := [(true, .own (.slice am ks.length cm) 34 1 ks.length vs), (true, .own (.slice aa js.length ca) 34 1 js.length us), (true, .bysO G (vs ++ us ++ xs) (ks ++ js ++ ts))]) (bs1 := [(true, gm, 61, [.slice am ks.length cm, .slice aa js.length ca, .int .i64 ((er : Nat) : Int)])]) (E := fun r => [(true, .own (.slice r.a ks19.length r.c) 34 1 ks19.length r.vs), (true, .own (.slice aa js.length ca) 34 1 js.length us), (true, .bysO G (r.vs ++ us ++ (xs ++ [.slice r.x p18.length r.y])) (ks19 ++ js ++ (ts ++ [p18])))]) (E1 := fun r => [(true, .own (.slice r.a ks19.length r.c) 34 1 ks19.length r.vs), (true, .own (.slice aa js.length ca) 34 1 js.length us), (true, .bysO G (r.vs ++ us ++ (xs ++ [.slice r.x p18.length r.y])) (ks19 ++ js ++ (ts ++ [p18])))]) (E2 := fun r => []) (bfA := fun r => [(true, gm, 61, [.slice r.a ks19.length r.c, .slice aa js.length ca, .int .i64 ((e20 : Nat) : Int)])]) (bf := fun r => [(true, gm, 61, [.slice r.a ks19.length r.c, .slice aa js.length ca, .int .i64 ((e20 : Nat) : Int)])]) (bf2 := fun r => []) rfl rfl rfl rfl rfl (Try.call39 _) rfl rfl (by decide) (by decide) (fun Z X hm => pop_c gm am cm vs aa ca us G xs ts ks js er p18 ks19 e20 (ok.mono (by decide)) hks19 _ _ _ hm) (fun _ => rfl) (fun _ => rfl) (fun _ => rfl) (fun _ => rfl) (fun _ => rfl) rfl fun ⟨ad21, cp22, vs23, ad24, cp25⟩ ac w hs => ?_))
        refine lstep (wpO_plain rfl (op_assign hs none rfl rfl rfl rfl fun ac hs => ?_))
        refine wpList_nil ?_
        refine then_n ?_
        refine wp_region_lit ?_
        refine lstep (wpO_plain rfl (op_move hs none rfl rfl rfl rfl fun ac hs => ?_))
        refine lstep (wpO_plain rfl (op_move hs none rfl rfl rfl rfl fun ac hs => ?_))
        obtain ⟨q26, hq26⟩ : ∃ z0, truthL p18 = z0 := ⟨_, rfl⟩
        refine lstep (wpO_plain rfl (op_callV (F := 47) (ρ := Unit) hs none none (v := fun r => .bool q26) (E := fun r => []) (j := 0) rfl rfl rfl rfl (Try.call47 _) (fun hs => truth_c ad24 p18.length cp25 p18 (Nat.le_trans lp18 (by decide)) q26 hq26 _ _ (hs.itemZ (k := 2) rfl (mem_last3 (hs.bLen 2 rfl)))) (fun _ => rfl) (fun _ => rfl) rfl rfl fun _ ac w hs => ?_))
        obtain ⟨e27, he27⟩ : ∃ z0, mustE q26 e20 = z0 := ⟨_, rfl⟩
        refine lstep (wpO_plain rfl (op_callX (F := 46) (ρ := Unit) hs none none [0] [] (v := fun r => .tuple #[]) (S1 := []) (bs1 := [(true, gm, 61, [.slice ad21 ks19.length cp22, .slice aa js.length ca, .int .i64 ((e20 : Nat) : Int)])]) (E := fun r => []) (E1 := fun r => []) (E2 := fun r => []) (bfA := fun r => [(true, gm, 61, [.slice ad21 ks19.length cp22, .slice aa js.length ca, .int .i64 ((e27 : Nat) : Int)])]) (bf := fun r => [(true, gm, 61, [.slice ad21 ks19.length cp22, .slice aa js.length ca, .int .i64 ((e27 : Nat) : Int)])]) (bf2 := fun r => []) rfl rfl rfl rfl rfl (Try.call46 _) rfl rfl (by decide) (by decide) (fun Z X hm => must_c gm (.slice ad21 ks19.length cp22) (.slice aa js.length ca) e20 q26 e27 he27 _ _ _ hm) (fun _ => rfl) (fun _ => rfl) (fun _ => rfl) (fun _ => rfl) (fun _ => rfl) rfl fun _ ac w hs => ?_))
        refine wpList_nil ?_
        refine blk_n ?_
        refine then_n ?_
        refine wp_seq ?_
        replace hs : St 85 ⟨w0, [], [(true, .own (.slice ad21 ks19.length cp22) 34 1 ks19.length vs23), (true, .own (.slice aa js.length ca) 34 1 js.length us), (true, .bysO G (vs23 ++ us ++ (xs ++ [.slice ad24 p18.length cp25])) (ks19 ++ js ++ (ts ++ [p18])))], Z, X⟩ [(4, true, .bool false)] [(true, gm, 61, [.slice ad21 ks19.length cp22, .slice aa js.length ca, .int .i64 ((e27 : Nat) : Int)])] ac _ := hs.re ⟨rfl, trivial⟩
        refine wp_region_lit ?_
        refine lstep (wpO_plain rfl (op_assign hs none rfl rfl rfl rfl fun ac hs => ?_))
        refine wpList_nil ?_
        refine then_n ?_
        refine wp_ret ?_
        have HS := hs
        have h0 := hp
        unfold redL at h0
        rw [if_neg hp8, if_neg hp16, if_pos hp17] at h0
        simp only [hks19, hq26, he27] at h0
        obtain ⟨hq, hk, he⟩ := inj3 h0
        subst hq
        subst hk
        subst he
        have hs := HS
        replace hs := hs.dropB (zs := [.slice ad24 p18.length cp25]) (rs := [p18]) 2 (hs.xsLen 2 rfl (hs.ownLen 0 rfl) (hs.ownLen 1 rfl)) rfl (hs.ownLen 0 rfl) (hs.ownLen 1 rfl)
        exact bodyPost_ret (res1 rfl (rv_t hs rfl)) hs.defers ⟨⟨ad21, cp22, vs23, G⟩, rfl, ((hs.selS [0, 1, 2] rfl (by decide)).selB [0] rfl (by decide)).mem⟩
      · skip
        have hp28 := of_decide_eq_false hc
        refine wp_seq ?_
        refine wp_region_lit ?_
        refine lstep (wpO_plain rfl (op_bin hs none (v := .bool (decide (op = 115))) rfl rfl rfl rfl (fun _ => rfl) (bin_eqlN (x := op) (y := 115)) rfl fun ac hs => ?_))
        refine lstep (wpO_plain rfl (op_assign hs none rfl rfl rfl rfl fun ac hs => ?_))
        refine wpList_nil ?_
        refine then_n ?_
        refine wp_cond_split (hs.ev rfl) (fun hc => ?_) (fun hc => ?_)
        · skip
          have hp29 := of_decide_eq_true hc
          refine wp_seq ?_
          by_cases hq30 : needE ks.length 1 er = 0
          · skip
            refine wp_region_lit ?_
            refine lstep (wpO_plain rfl (op_move hs none rfl rfl rfl rfl fun ac hs => ?_))
            obtain ⟨e31, he31⟩ : ∃ z0, needE ks.length 1 er = z0 := ⟨_, rfl⟩
            have hl0 := (need_len hq30).1
            refine lstep (wpO_plain rfl (op_callX (F := 48) (ρ := Unit) hs none none [0] [] (v := fun r => .bool true) (S1 := []) (bs1 := [(true, gm, 61, [.slice am ks.length cm, .slice aa js.length ca, .int .i64 ((er : Nat) : Int)])]) (E := fun r => []) (E1 := fun r => []) (E2 := fun r => []) (bfA := fun r => [(true, gm, 61, [.slice am ks.length cm, .slice aa js.length ca, .int .i64 ((e31 : Nat) : Int)])]) (bf := fun r => [(true, gm, 61, [.slice am ks.length cm, .slice aa js.length ca, .int .i64 ((e31 : Nat) : Int)])]) (bf2 := fun r => []) rfl rfl rfl rfl rfl (Try.call48 _) rfl rfl (by decide) (by decide) (fun Z X hm => needs_c gm am ks.length cm (.slice aa js.length ca) er 1 e31 true he31 (decide_eq_true (by rw [← he31]; exact hq30)) _ _ _ hm) (fun _ => rfl) (fun _ => rfl) (fun _ => rfl) (fun _ => rfl) (fun _ => rfl) rfl fun _ ac w hs => ?_))
            refine lstep (wpO_plain rfl (op_move hs none rfl rfl rfl rfl fun ac hs => ?_))
            refine lstep (wpO_in hs rfl rfl rfl (op_move hs none rfl rfl rfl rfl fun ac hs => ?_))
            obtain ⟨y32, hy32⟩ : ∃ z0, ks[ks.length - 1 - 0]? = some z0 := ⟨_, List.getElem?_eq_getElem (show ks.length - 1 - 0 < ks.length by omega)⟩
            obtain ⟨ad33, cp34, ky32⟩ := hs.poolAt 2 rfl (hs.ownLen 0 rfl) hy32
            have my32 := zip_get ky32 hy32
            have ly32 : y32.length ≤ 8000 := (ok.mono (by decide)).2 _ (List.mem_of_getElem? hy32)
            have dy32 : ks.getD (ks.length - 1 - 0) [] = y32 := getD_of hy32
            refine lstep (wpO_in hs rfl rfl rfl (op_callX (F := 49) (ρ := Unit) hs none none [0] [0] (v := fun r => .slice ad33 y32.length cp34) (S1 := [(true, .own (.slice am ks.length cm) 34 1 ks.length vs)]) (bs1 := [(true, gm, 61, [.slice am ks.length cm, .slice aa js.length ca, .int .i64 ((e31 : Nat) : Int)])]) (E := fun r => [(true, .own (.slice am ks.length cm) 34 1 ks.length vs)]) (E1 := fun r => [(true, .own (.slice am ks.length cm) 34 1 ks.length vs)]) (E2 := fun r => []) (bfA := fun r => [(true, gm, 61, [.slice am ks.length cm, .slice aa js.length ca, .int .i64 ((e31 : Nat) : Int)])]) (bf := fun r => [(true, gm, 61, [.slice am ks.length cm, .slice aa js.length ca, .int .i64 ((e31 : Nat) : Int)])]) (bf2 := fun r => []) rfl rfl rfl rfl rfl (Try.call49 _) rfl rfl (by decide) (by decide) (fun Z X hm => top_c gm am cm vs ks (.slice aa js.length ca) e31 0 (.slice ad33 y32.length cp34) (show 0 < ks.length by omega) ky32 (ok.mono (by decide)) _ _ _ hm) (fun _ => rfl) (fun _ => rfl) (fun _ => rfl) (fun _ => rfl) (fun _ => rfl) rfl fun _ ac w hs => ?_))
            obtain ⟨q35, hq35⟩ : ∃ z0, truthL y32 = z0 := ⟨_, rfl⟩
            refine lstep (wpO_in hs rfl rfl rfl (op_callV (F := 47) (ρ := Unit) hs none none (v := fun r => .bool q35) (E := fun r => []) (j := 0) rfl rfl rfl rfl (Try.call47 _) (fun hs => truth_c ad33 y32.length cp34 y32 (Nat.le_trans ly32 (by decide)) q35 hq35 _ _ (hs.itemZ (k := 2) rfl (mem_main (hs.ownLen 0 rfl) my32))) (fun _ => rfl) (fun _ => rfl) rfl rfl fun _ ac w hs => ?_))
            refine lstep (wpO_plain rfl (op_pickT hs none rfl rfl rfl rfl rfl fun ac hs => ?_))
            refine wpList_nil ?_
            refine then_n ?_
            refine wp_cond_split (hs.ev rfl) (fun hc => ?_) (fun hc => ?_)
            · skip
              replace hs : St 85 ⟨w0, [], [(true, .own (.slice am ks.length cm) 34 1 ks.length vs), (true, .own (.slice aa js.length ca) 34 1 js.length us), (true, .bysO G (vs ++ us ++ xs) (ks ++ js ++ ts))], Z, X⟩ [(0, true, .pointer (some ⟨gm, 0, none⟩)), (4, true, .bool false)] [(true, gm, 61, [.slice am ks.length cm, .slice aa js.length ca, .int .i64 ((e31 : Nat) : Int)])] ac _ := hs.re ⟨rfl, rfl, trivial⟩
              refine wp_region_lit ?_
              refine lstep (wpO_plain rfl (op_move hs none rfl rfl rfl rfl fun ac hs => ?_))
              refine lstep (wpO_plain rfl (op_move hs none rfl rfl rfl rfl fun ac hs => ?_))
              obtain ⟨y36, hy36⟩ : ∃ z0, ks[ks.length - 1 - 0]? = some z0 := ⟨_, List.getElem?_eq_getElem (show ks.length - 1 - 0 < ks.length by omega)⟩
              obtain ⟨ad37, cp38, ky36⟩ := hs.poolAt 2 rfl (hs.ownLen 0 rfl) hy36
              have my36 := zip_get ky36 hy36
              have ly36 : y36.length ≤ 8000 := (ok.mono (by decide)).2 _ (List.mem_of_getElem? hy36)
              have dy36 : ks.getD (ks.length - 1 - 0) [] = y36 := getD_of hy36
              refine lstep (wpO_plain rfl (op_callX (F := 49) (ρ := Unit) hs none none [0] [0] (v := fun r => .slice ad37 y36.length cp38) (S1 := [(true, .own (.slice am ks.length cm) 34 1 ks.length vs)]) (bs1 := [(true, gm, 61, [.slice am ks.length cm, .slice aa js.length ca, .int .i64 ((e31 : Nat) : Int)])]) (E := fun r => [(true, .own (.slice am ks.length cm) 34 1 ks.length vs)]) (E1 := fun r => [(true, .own (.slice am ks.length cm) 34 1 ks.length vs)]) (E2 := fun r => []) (bfA := fun r => [(true, gm, 61, [.slice am ks.length cm, .slice aa js.length ca, .int .i64 ((e31 : Nat) : Int)])]) (bf := fun r => [(true, gm, 61, [.slice am ks.length cm, .slice aa js.length ca, .int .i64 ((e31 : Nat) : Int)])]) (bf2 := fun r => []) rfl rfl rfl rfl rfl (Try.call49 _) rfl rfl (by decide) (by decide) (fun Z X hm => top_c gm am cm vs ks (.slice aa js.length ca) e31 0 (.slice ad37 y36.length cp38) (show 0 < ks.length by omega) ky36 (ok.mono (by decide)) _ _ _ hm) (fun _ => rfl) (fun _ => rfl) (fun _ => rfl) (fun _ => rfl) (fun _ => rfl) rfl fun _ ac w hs => ?_))
              refine lstep (wpO_plain rfl (op_bsO hs none none (qs := [(0, .slice ad37 y36.length cp38)]) (cs := [.slice ad37 y36.length cp38]) rfl rfl rfl rfl Try.underlying22 inf_slice_34 (by decide) (by decide) (fill_one _ _ rfl) rfl rfl rfl rfl fun ad40 ac w hs => ?_))
              replace hs := hs.freeze 3 rfl
              refine lstep (wpO_plain rfl (op_callX (F := 38) (ρ := M1) hs none none [0] [0, 1, 2, 3] (v := fun r => .tuple #[]) (S1 := [(true, .own (.slice am ks.length cm) 34 1 ks.length vs), (true, .own (.slice aa js.length ca) 34 1 js.length us), (true, .bysO G (vs ++ us ++ xs) (ks ++ js ++ ts)), (true, .cel (.slice ad40 1 1) 1 ([.slice ad37 y36.length cp38]))]) (bs1 := [(true, gm, 61, [.slice am ks.length cm, .slice aa js.length ca, .int .i64 ((e31 : Nat) : Int)])]) (E := fun r => [(true, .own (.slice r.a ((ks ++ [y36]).length) r.c) 34 1 ((ks ++ [y36]).length) r.vs), (true, .own (.slice aa js.length ca) 34 1 js.length us), (true, .bysO r.G (r.vs ++ us ++ xs) ((ks ++ [y36]) ++ js ++ ts)), (true, .cel (.slice ad40 1 1) 1 ([.slice ad37 y36.length cp38]))]) (E1 := fun r => [(true, .own (.slice r.a ((ks ++ [y36]).length) r.c) 34 1 ((ks ++ [y36]).length) r.vs), (true, .own (.slice aa js.length ca) 34 1 js.length us), (true, .bysO r.G (r.vs ++ us ++ xs) ((ks ++ [y36]) ++ js ++ ts)), (true, .cel (.slice ad40 1 1) 1 ([.slice ad37 y36.length cp38]))]) (E2 := fun r => []) (bfA := fun r => [(true, gm, 61, [.slice r.a ((ks ++ [y36]).length) r.c, .slice aa js.length ca, .int .i64 ((e31 : Nat) : Int)])]) (bf := fun r => [(true, gm, 61, [.slice r.a ((ks ++ [y36]).length) r.c, .slice aa js.length ca, .int .i64 ((e31 : Nat) : Int)])]) (bf2 := fun r => []) rfl rfl rfl rfl rfl (Try.call38 _) rfl rfl (by decide) (by decide) (fun Z X hm => pushP_c gm am cm vs aa ca us G xs ts ks js e31 ad40 1 ad37 cp38 y36 ly36 (ok.mono (by decide)) (mem_main (hs.ownLen 0 rfl) my36) _ _ _ hm) (fun _ => rfl) (fun _ => rfl) (fun _ => rfl) (fun _ => rfl) (fun _ => rfl) rfl fun ⟨ad41, cp42, vs43, G44⟩ ac w hs => ?_))
              refine wpList_nil ?_
              refine blk_n ?_
              refine then_n ?_
              refine wp_seq ?_
              refine wp_region_lit ?_
              refine lstep (wpO_plain rfl (op_assign hs none rfl rfl rfl rfl fun ac hs => ?_))
              refine wpList_nil ?_
              refine then_n ?_
              refine wp_ret ?_
              have HS := hs
              obtain rfl : y32 = y36 := dy32.symm.trans dy36
              obtain rfl : e31 = 0 := he31.symm.trans hq30
              have h0 := hp
              unfold redL at h0
              rw [if_neg hp8, if_neg hp16, if_neg hp28, if_pos hp29] at h0
              simp only [ifd_yes hq30 (dy32 : lastB ks = y32) (hq35.trans hc)] at h0
              obtain ⟨hq, hk, he⟩ := inj3 h0
              subst hq
              subst hk
              subst he
              have hs := HS
              exact bodyPost_ret (res1 rfl (rv_t hs rfl)) hs.defers ⟨⟨ad41, cp42, vs43, G44⟩, rfl, ((hs.selS [0, 1, 2] rfl (by decide)).selB [0] rfl (by decide)).mem⟩
            · skip
              refine wp_skip ?_
              refine blk_n ?_
              refine then_n ?_
              refine wp_seq ?_
              replace hs : St 85 ⟨w0, [], [(true, .own (.slice am ks.length cm) 34 1 ks.length vs), (true, .own (.slice aa js.length ca) 34 1 js.length us), (true, .bysO G (vs ++ us ++ xs) (ks ++ js ++ ts))], Z, X⟩ [(4, true, .bool false)] [(true, gm, 61, [.slice am ks.length cm, .slice aa js.length ca, .int .i64 ((e31 : Nat) : Int)])] ac _ := hs.re ⟨rfl, trivial⟩
              refine wp_region_lit ?_
              refine lstep (wpO_plain rfl (op_assign hs none rfl rfl rfl rfl fun ac hs => ?_))
              refine wpList_nil ?_
              refine then_n ?_
              refine wp_ret ?_
              have HS := hs
              obtain rfl : e31 = 0 := he31.symm.trans hq30
              have h0 := hp
              unfold redL at h0
              rw [if_neg hp8, if_neg hp16, if_neg hp28, if_pos hp29] at h0
              simp only [ifd_un (dy32 : lastB ks = y32) (hq35.trans hc), hq30] at h0
              obtain ⟨hq, hk, he⟩ := inj3 h0
              subst hq
              subst hk
              subst he
              have hs := HS
              exact bodyPost_ret (res1 rfl (rv_t hs rfl)) hs.defers ⟨⟨am, cm, vs, G⟩, rfl, ((hs.selS [0, 1, 2] rfl (by decide)).selB [0] rfl (by decide)).mem⟩
          · skip
            refine wp_region_lit ?_
            refine lstep (wpO_plain rfl (op_move hs none rfl rfl rfl rfl fun ac hs => ?_))
            obtain ⟨e45, he45⟩ : ∃ z0, needE ks.length 1 er = z0 := ⟨_, rfl⟩
            refine lstep (wpO_plain rfl (op_callX (F := 48) (ρ := Unit) hs none none [0] [] (v := fun r => .bool false) (S1 := []) (bs1 := [(true, gm, 61, [.slice am ks.length cm, .slice aa js.length ca, .int .i64 ((er : Nat) : Int)])]) (E := fun r => []) (E1 := fun r => []) (E2 := fun r => []) (bfA := fun r => [(true, gm, 61, [.slice am ks.length cm, .slice aa js.length ca, .int .i64 ((e45 : Nat) : Int)])]) (bf := fun r => [(true, gm, 61, [.slice am ks.length cm, .slice aa js.length ca, .int .i64 ((e45 : Nat) : Int)])]) (bf2 := fun r => []) rfl rfl rfl rfl rfl (Try.call48 _) rfl rfl (by decide) (by decide) (fun Z X hm => needs_c gm am ks.length cm (.slice aa js.length ca) er 1 e45 false he45 (decide_eq_false (by rw [← he45]; exact hq30)) _ _ _ hm) (fun _ => rfl) (fun _ => rfl) (fun _ => rfl) (fun _ => rfl) (fun _ => rfl) rfl fun _ ac w hs => ?_))
            refine lstep (wpO_plain rfl (op_move hs none rfl rfl rfl rfl fun ac hs => ?_))
            refine lstep (wpO_out hs none rfl rfl (.inl rfl) rfl rfl fun ac hs => ?_)
            refine lstep (wpO_out hs none rfl rfl (.inl rfl) rfl rfl fun ac hs => ?_)
            refine lstep (wpO_out hs none rfl rfl (.inl rfl) rfl rfl fun ac hs => ?_)
            refine lstep (wpO_plain rfl (op_pickF hs none rfl rfl rfl rfl rfl fun ac hs => ?_))
            refine wpList_nil ?_
            refine then_n ?_
            refine wp_cond_false (hs.ev rfl) ?_
            refine wp_skip ?_
            refine blk_n ?_
            refine then_n ?_
            refine wp_seq ?_
            replace hs : St 85 ⟨w0, [], [(true, .own (.slice am ks.length cm) 34 1 ks.length vs), (true, .own (.slice aa js.length ca) 34 1 js.length us), (true, .bysO G (vs ++ us ++ xs) (ks ++ js ++ ts))], Z, X⟩ [(4, true, .bool false)] [(true, gm, 61, [.slice am ks.length cm, .slice aa js.length ca, .int .i64 ((e45 : Nat) : Int)])] ac _ := hs.re ⟨rfl, trivial⟩
            refine wp_region_lit ?_
            refine lstep (wpO_plain rfl (op_assign hs none rfl rfl rfl rfl fun ac hs => ?_))
            refine wpList_nil ?_
            refine then_n ?_
            refine wp_ret ?_
            have HS := hs
            have h0 := hp
            unfold redL at h0
            rw [if_neg hp8, if_neg hp16, if_neg hp28, if_pos hp29] at h0
            simp only [ifd_no hq30] at h0
            rw [he45] at h0
            obtain ⟨hq, hk, he⟩ := inj3 h0
            subst hq
            subst hk
            subst he
            have hs := HS
            exact bodyPost_ret (res1 rfl (rv_t hs rfl)) hs.defers ⟨⟨am, cm, vs, G⟩, rfl, ((hs.selS [0, 1, 2] rfl (by decide)).selB [0] rfl (by decide)).mem⟩
        · skip
          have hp46 := of_decide_eq_false hc
          refine wp_seq ?_
          refine wp_region_lit ?_
          refine lstep (wpO_plain rfl (op_bin hs none (v := .bool (decide (op = 116))) rfl rfl rfl rfl (fun _ => rfl) (bin_eqlN (x := op) (y := 116)) rfl fun ac hs => ?_))
          refine lstep (wpO_plain rfl (op_assign hs none rfl rfl rfl rfl fun ac hs => ?_))
          refine wpList_nil ?_
          refine then_n ?_
          refine wp_cond_split (hs.ev rfl) (fun hc => ?_) (fun hc => ?_)
          · skip
            have hp47 := of_decide_eq_true hc
            replace hs : St 85 ⟨w0, [], [(true, .own (.slice am ks.length cm) 34 1 ks.length vs), (true, .own (.slice aa js.length ca) 34 1 js.length us), (true, .bysO G (vs ++ us ++ xs) (ks ++ js ++ ts))], Z, X⟩ [(0, true, .pointer (some ⟨gm, 0, none⟩)), (4, true, .bool false)] [(true, gm, 61, [.slice am ks.length cm, .slice aa js.length ca, .int .i64 ((er : Nat) : Int)])] ac _ := hs.re ⟨rfl, rfl, trivial⟩
            refine wp_region_lit ?_
            refine lstep (wpO_plain rfl (op_move hs none rfl rfl rfl rfl fun ac hs => ?_))
            refine lstep (wpO_plain rfl (op_move hs none rfl rfl rfl rfl fun ac hs => ?_))
            refine lstep (wpO_plain rfl (op_nilCheck hs none rfl rfl rfl rfl fun ac hs => ?_))
            refine lstep (wpO_plain rfl (op_fieldA hs none rfl rfl rfl Try.underlying61 rfl Try.sizeOf22 (by decide) rfl fun ac hs => ?_))
            refine lstep (wpO_plain rfl (op_load hs none 0 (v := .slice am ks.length cm) rfl rfl rfl rfl Try.isAgg22 Try.sizeOf22 rfl rfl fun ac hs => ?_))
            refine lstep (wpO_plain rfl (op_blt hs none (v := .int .i64 ((ks.length : Nat) : Int)) rfl rfl rfl (blt_len Try.underlying22) rfl fun ac hs => ?_))
            have lad48 : (enc ((ks.length : Nat) : Int)).length ≤ 9 := enc_len (show -9223372036854775808 ≤ ((ks.length : Nat) : Int) by omega) (show ((ks.length : Nat) : Int) < 9223372036854775808 by omega)
            refine lstep (wpO_plain rfl (op_callV (F := 50) (ρ := Option Addr × Nat) hs none none (v := fun r => .slice r.1 ((enc ((ks.length : Nat) : Int)).length) r.2) (E := fun r => [.own (.slice r.1 ((enc ((ks.length : Nat) : Int)).length) r.2) 5 1 ((enc ((ks.length : Nat) : Int)).length) (bcs (enc ((ks.length : Nat) : Int)))]) (j := 1) rfl rfl rfl rfl (Try.call50 _) (fun hs => enc_o ((ks.length : Nat) : Int) (show -9223372036854775808 ≤ ((ks.length : Nat) : Int) by omega) (show ((ks.length : Nat) : Int) < 9223372036854775808 by omega) _ _) (fun _ => rfl) (fun _ => rfl) rfl rfl fun ⟨ad48, cp49⟩ ac w hs => ?_))
            refine lstep (wpO_plain rfl (op_bsO hs none none (qs := [(0, .slice ad48 ((enc ((ks.length : Nat) : Int)).length) cp49)]) (cs := [.slice ad48 ((enc ((ks.length : Nat) : Int)).length) cp49]) rfl rfl rfl rfl Try.underlying22 inf_slice_34 (by decide) (by decide) (fill_one _ _ rfl) rfl rfl rfl rfl fun ad51 ac w hs => ?_))
            replace hs := hs.freeze 4 rfl
            replace hs := hs.freeze 3 rfl
            refine lstep (wpO_plain rfl (op_callX (F := 38) (ρ := M1) hs none none [0] [0, 1, 2, 4, 3] (v := fun r => .tuple #[]) (S1 := [(true, .own (.slice am ks.length cm) 34 1 ks.length vs), (true, .own (.slice aa js.length ca) 34 1 js.length us), (true, .bysO G (vs ++ us ++ xs) (ks ++ js ++ ts)), (true, .cel (.slice ad51 1 1) 1 ([.slice ad48 ((enc ((ks.length : Nat) : Int)).length) cp49])), (true, .cel (.slice ad48 ((enc ((ks.length : Nat) : Int)).length) cp49) ((enc ((ks.length : Nat) : Int)).length) (bcs (enc ((ks.length : Nat) : Int))))]) (bs1 := [(true, gm, 61, [.slice am ks.length cm, .slice aa js.length ca, .int .i64 ((er : Nat) : Int)])]) (E := fun r => [(true, .own (.slice r.a ((ks ++ [enc ((ks.length : Nat) : Int)]).length) r.c) 34 1 ((ks ++ [enc ((ks.length : Nat) : Int)]).length) r.vs), (true, .own (.slice aa js.length ca) 34 1 js.length us), (true, .bysO r.G (r.vs ++ us ++ xs) ((ks ++ [enc ((ks.length : Nat) : Int)]) ++ js ++ ts)), (true, .cel (.slice ad51 1 1) 1 ([.slice ad48 ((enc ((ks.length : Nat) : Int)).length) cp49])), (true, .cel (.slice ad48 ((enc ((ks.length : Nat) : Int)).length) cp49) ((enc ((ks.length : Nat) : Int)).length) (bcs (enc ((ks.length : Nat) : Int))))]) (E1 := fun r => [(true, .own (.slice r.a ((ks ++ [enc ((ks.length : Nat) : Int)]).length) r.c) 34 1 ((ks ++ [enc ((ks.length : Nat) : Int)]).length) r.vs), (true, .own (.slice aa js.length ca) 34 1 js.length us), (true, .bysO r.G (r.vs ++ us ++ xs) ((ks ++ [enc ((ks.length : Nat) : Int)]) ++ js ++ ts)), (true, .cel (.slice ad51 1 1) 1 ([.slice ad48 ((enc ((ks.length : Nat) : Int)).length) cp49])), (true, .cel (.slice ad48 ((enc ((ks.length : Nat) : Int)).length) cp49) ((enc ((ks.length : Nat) : Int)).length) (bcs (enc ((ks.length : Nat) : Int))))]) (E2 := fun r => []) (bfA := fun r => [(true, gm, 61, [.slice r.a ((ks ++ [enc ((ks.length : Nat) : Int)]).length) r.c, .slice aa js.length ca, .int .i64 ((er : Nat) : Int)])]) (bf := fun r => [(true, gm, 61, [.slice r.a ((ks ++ [enc ((ks.length : Nat) : Int)]).length) r.c, .slice aa js.length ca, .int .i64 ((er : Nat) : Int)])]) (bf2 := fun r => []) rfl rfl rfl rfl rfl (Try.call38 _) rfl rfl (by decide) (by decide) (fun Z X hm => pushC_c gm am cm vs aa ca us G xs ts ks js er ad51 1 ad48 cp49 (enc ((ks.length : Nat) : Int)) (show (enc ((ks.length : Nat) : Int)).length ≤ 8000 by omega) (ok.mono (by decide)) ((enc ((ks.length : Nat) : Int)).length) rfl _ _ _ hm) (fun _ => rfl) (fun _ => rfl) (fun _ => rfl) (fun _ => rfl) (fun _ => rfl) rfl fun ⟨ad52, cp53, vs54, G55⟩ ac w hs => ?_))
            refine wpList_nil ?_
            refine blk_n ?_
            refine then_n ?_
            refine wp_seq ?_
            replace hs : St 85 ⟨w0, [], [(true, .own (.slice ad52 ((ks ++ [enc ((ks.length : Nat) : Int)]).length) cp53) 34 1 ((ks ++ [enc ((ks.length : Nat) : Int)]).length) vs54), (true, .own (.slice aa js.length ca) 34 1 js.length us), (true, .bysO G55 (vs54 ++ us ++ xs) ((ks ++ [enc ((ks.length : Nat) : Int)]) ++ js ++ ts)), (true, .cel (.slice ad48 ((enc ((ks.length : Nat) : Int)).length) cp49) ((enc ((ks.length : Nat) : Int)).length) (bcs (enc ((ks.length : Nat) : Int)))), (true, .cel (.slice ad51 1 1) 1 ([.slice ad48 ((enc ((ks.length : Nat) : Int)).length) cp49]))], Z, X⟩ [(4, true, .bool false)] [(true, gm, 61, [.slice ad52 ((ks ++ [enc ((ks.length : Nat) : Int)]).length) cp53, .slice aa js.length ca, .int .i64 ((er : Nat) : Int)])] ac _ := hs.re ⟨rfl, trivial⟩
            refine wp_region_lit ?_
            refine lstep (wpO_plain rfl (op_assign hs none rfl rfl rfl rfl fun ac hs => ?_))
            refine wpList_nil ?_
            refine then_n ?_
            refine wp_ret ?_
            have HS := hs
            have h0 := hp
            unfold redL at h0
            rw [if_neg hp8, if_neg hp16, if_neg hp28, if_neg hp46, if_pos hp47] at h0
            obtain ⟨hq, hk, he⟩ := inj3 h0
            subst hq
            subst hk
            subst he
            have hs := HS
            exact bodyPost_ret (res1 rfl (rv_t hs rfl)) hs.defers ⟨⟨ad52, cp53, vs54, G55⟩, rfl, ((hs.selS [0, 1, 2] rfl (by decide)).selB [0] rfl (by decide)).mem⟩
          · skip
            have hp56 := of_decide_eq_false hc
            refine wp_seq ?_
            replace hs : St 85 ⟨w0, [], [(true, .own (.slice am ks.length cm) 34 1 ks.length vs), (true, .own (.slice aa js.length ca) 34 1 js.length us), (true, .bysO G (vs ++ us ++ xs) (ks ++ js ++ ts))], Z, X⟩ [(0, true, .pointer (some ⟨gm, 0, none⟩)), (4, true, .bool false), (6, true, .int .u8 ((op : Nat) : Int))] [(true, gm, 61, [.slice am ks.length cm, .slice aa js.length ca, .int .i64 ((er : Nat) : Int)])] ac _ := hs.re ⟨rfl, rfl, rfl, trivial⟩
            refine wp_region_lit ?_
            refine lstep (wpO_plain rfl (op_bin hs none (v := .bool (decide (op = 126))) rfl rfl rfl rfl (fun _ => rfl) (bin_eqlN (x := op) (y := 126)) rfl fun ac hs => ?_))
            refine lstep (wpO_plain rfl (op_assign hs none rfl rfl rfl rfl fun ac hs => ?_))
            refine wpList_nil ?_
            refine then_n ?_
            refine wp_cond_split (hs.ev rfl) (fun hc => ?_) (fun hc => ?_)
            · skip
              have hp57 := of_decide_eq_true hc
              refine wp_region_lit ?_
              refine lstep (wpO_plain rfl (op_move hs none rfl rfl rfl rfl fun ac hs => ?_))
              obtain ⟨ks58, e59, hks58⟩ : ∃ z0 z1, joinL ks er = (z0, z1) := ⟨_, _, rfl⟩
              have oks58 := join_ok ok hks58
              refine lstep (wpO_plain rfl (op_callX (F := 51) (ρ := M1) hs none none [0] [0, 1, 2] (v := fun r => .tuple #[]) (S1 := [(true, .own (.slice am ks.length cm) 34 1 ks.length vs), (true, .own (.slice aa js.length ca) 34 1 js.length us), (true, .bysO G (vs ++ us ++ xs) (ks ++ js ++ ts))]) (bs1 := [(true, gm, 61, [.slice am ks.length cm, .slice aa js.length ca, .int .i64 ((er : Nat) : Int)])]) (E := fun r => [(true, .own (.slice r.a ks58.length r.c) 34 1 ks58.length r.vs), (true, .own (.slice aa js.length ca) 34 1 js.length us), (true, .bysO r.G (r.vs ++ us ++ xs) (ks58 ++ js ++ ts))]) (E1 := fun r => [(true, .own (.slice r.a ks58.length r.c) 34 1 ks58.length r.vs), (true, .own (.slice aa js.length ca) 34 1 js.length us), (true, .bysO r.G (r.vs ++ us ++ xs) (ks58 ++ js ++ ts))]) (E2 := fun r => []) (bfA := fun r => [(true, gm, 61, [.slice r.a ks58.length r.c, .slice aa js.length ca, .int .i64 ((e59 : Nat) : Int)])]) (bf := fun r => [(true, gm, 61, [.slice r.a ks58.length r.c, .slice aa js.length ca, .int .i64 ((e59 : Nat) : Int)])]) (bf2 := fun r => []) rfl rfl rfl rfl rfl (Try.call51 _) rfl rfl (by decide) (by decide) (fun Z X hm => join_c gm am cm vs aa ca us G xs ts ks js er ks58 e59 (ok.mono (by decide)) hks58 _ _ _ hm) (fun _ => rfl) (fun _ => rfl) (fun _ => rfl) (fun _ => rfl) (fun _ => rfl) rfl fun ⟨ad60, cp61, vs62, G63⟩ ac w hs => ?_))
              refine wpList_nil ?_
              refine blk_n ?_
              refine then_n ?_
              refine wp_seq ?_
              refine wp_region_lit ?_
              refine lstep (wpO_plain rfl (op_assign hs none rfl rfl rfl rfl fun ac hs => ?_))
              refine wpList_nil ?_
              refine then_n ?_
              refine wp_ret ?_
              have HS := hs
              have h0 := hp
              unfold redL at h0
              rw [if_neg hp8, if_neg hp16, if_neg hp28, if_neg hp46, if_neg hp56, if_pos hp57] at h0
              simp only [hks58] at h0
              obtain ⟨hq, hk, he⟩ := inj3 h0
              subst hq
              subst hk
              subst he
              have hs := HS
              exact bodyPost_ret (res1 rfl (rv_t hs rfl)) hs.defers ⟨⟨ad60, cp61, vs62, G63⟩, rfl, ((hs.selS [0, 1, 2] rfl (by decide)).selB [0] rfl (by decide)).mem⟩
            · skip
              have hp64 := of_decide_eq_false hc
              refine wp_seq ?_
              refine wp_region_lit ?_
              refine lstep (wpO_plain rfl (op_bin hs none (v := .bool (decide (op = 130))) rfl rfl rfl rfl (fun _ => rfl) (bin_eqlN (x := op) (y := 130)) rfl fun ac hs => ?_))
              refine lstep (wpO_plain rfl (op_assign hs none rfl rfl rfl rfl fun ac hs => ?_))
              refine wpList_nil ?_
              refine then_n ?_
              refine wp_cond_split (hs.ev rfl) (fun hc => ?_) (fun hc => ?_)
              · skip
                have hp65 := of_decide_eq_true hc
                refine wp_seq ?_
                refine wp_region_lit ?_
                refine lstep (wpO_plain rfl (op_move hs none rfl rfl rfl rfl fun ac hs => ?_))
                obtain ⟨e66, he66⟩ : ∃ z0, needE ks.length 1 er = z0 := ⟨_, rfl⟩
                refine lstep (wpO_plain rfl (op_callX (F := 48) (ρ := Unit) hs none none [0] [] (v := fun r => .bool (decide (e66 = 0))) (S1 := []) (bs1 := [(true, gm, 61, [.slice am ks.length cm, .slice aa js.length ca, .int .i64 ((er : Nat) : Int)])]) (E := fun r => []) (E1 := fun r => []) (E2 := fun r => []) (bfA := fun r => [(true, gm, 61, [.slice am ks.length cm, .slice aa js.length ca, .int .i64 ((e66 : Nat) : Int)])]) (bf := fun r => [(true, gm, 61, [.slice am ks.length cm, .slice aa js.length ca, .int .i64 ((e66 : Nat) : Int)])]) (bf2 := fun r => []) rfl rfl rfl rfl rfl (Try.call48 _) rfl rfl (by decide) (by decide) (fun Z X hm => needs_c gm am ks.length cm (.slice aa js.length ca) er 1 e66 (decide (e66 = 0)) he66 rfl _ _ _ hm) (fun _ => rfl) (fun _ => rfl) (fun _ => rfl) (fun _ => rfl) (fun _ => rfl) rfl fun _ ac w hs => ?_))
                refine wpList_nil ?_
                refine then_n ?_
                refine wp_cond_split (hs.ev rfl) (fun hc => ?_) (fun hc => ?_)
                · skip
                  have hp67 := of_decide_eq_true hc
                  have hl0 := (need_len (he66.trans hp67)).1
                  replace hs : St 85 ⟨w0, [], [(true, .own (.slice am ks.length cm) 34 1 ks.length vs), (true, .own (.slice aa js.length ca) 34 1 js.length us), (true, .bysO G (vs ++ us ++ xs) (ks ++ js ++ ts))], Z, X⟩ [(0, true, .pointer (some ⟨gm, 0, none⟩)), (4, true, .bool false)] [(true, gm, 61, [.slice am ks.length cm, .slice aa js.length ca, .int .i64 ((e66 : Nat) : Int)])] ac _ := hs.re ⟨rfl, rfl, trivial⟩
                  refine wp_region_lit ?_
                  refine lstep (wpO_plain rfl (op_move hs none rfl rfl rfl rfl fun ac hs => ?_))
                  refine lstep (wpO_plain rfl (op_move hs none rfl rfl rfl rfl fun ac hs => ?_))
                  obtain ⟨y68, hy68⟩ : ∃ z0, ks[ks.length - 1 - 0]? = some z0 := ⟨_, List.getElem?_eq_getElem (show ks.length - 1 - 0 < ks.length by omega)⟩
                  obtain ⟨ad69, cp70, ky68⟩ := hs.poolAt 2 rfl (hs.ownLen 0 rfl) hy68
                  have my68 := zip_get ky68 hy68
                  have ly68 : y68.length ≤ 8000 := (ok.mono (by decide)).2 _ (List.mem_of_getElem? hy68)
                  have dy68 : ks.getD (ks.length - 1 - 0) [] = y68 := getD_of hy68
                  refine lstep (wpO_plain rfl (op_callX (F := 49) (ρ := Unit) hs none none [0] [0] (v := fun r => .slice ad69 y68.length cp70) (S1 := [(true, .own (.slice am ks.length cm) 34 1 ks.length vs)]) (bs1 := [(true, gm, 61, [.slice am ks.length cm, .slice aa js.length ca, .int .i64 ((e66 : Nat) : Int)])]) (E := fun r => [(true, .own (.slice am ks.length cm) 34 1 ks.length vs)]) (E1 := fun r => [(true, .own (.slice am ks.length cm) 34 1 ks.length vs)]) (E2 := fun r => []) (bfA := fun r => [(true, gm, 61, [.slice am ks.length cm, .slice aa js.length ca, .int .i64 ((e66 : Nat) : Int)])]) (bf := fun r => [(true, gm, 61, [.slice am ks.length cm, .slice aa js.length ca, .int .i64 ((e66 : Nat) : Int)])]) (bf2 := fun r => []) rfl rfl rfl rfl rfl (Try.call49 _) rfl rfl (by decide) (by decide) (fun Z X hm => top_c gm am cm vs ks (.slice aa js.length ca) e66 0 (.slice ad69 y68.length cp70) (show 0 < ks.length by omega) ky68 (ok.mono (by decide)) _ _ _ hm) (fun _ => rfl) (fun _ => rfl) (fun _ => rfl) (fun _ => rfl) (fun _ => rfl) rfl fun _ ac w hs => ?_))
                  refine lstep (wpO_plain rfl (op_blt hs none (v := .int .i64 ((y68.length : Nat) : Int)) rfl rfl rfl (blt_len Try.underlying34) rfl fun ac hs => ?_))
                  have lad71 : (enc ((y68.length : Nat) : Int)).length ≤ 9 := enc_len (show -9223372036854775808 ≤ ((y68.length : Nat) : Int) by omega) (show ((y68.length : Nat) : Int) < 9223372036854775808 by omega)
                  refine lstep (wpO_plain rfl (op_callV (F := 50) (ρ := Option Addr × Nat) hs none none (v := fun r => .slice r.1 ((enc ((y68.length : Nat) : Int)).length) r.2) (E := fun r => [.own (.slice r.1 ((enc ((y68.length : Nat) : Int)).length) r.2) 5 1 ((enc ((y68.length : Nat) : Int)).length) (bcs (enc ((y68.length : Nat) : Int)))]) (j := 1) rfl rfl rfl rfl (Try.call50 _) (fun hs => enc_o ((y68.length : Nat) : Int) (show -9223372036854775808 ≤ ((y68.length : Nat) : Int) by omega) (show ((y68.length : Nat) : Int) < 9223372036854775808 by omega) _ _) (fun _ => rfl) (fun _ => rfl) rfl rfl fun ⟨ad71, cp72⟩ ac w hs => ?_))
                  refine lstep (wpO_plain rfl (op_bsO hs none none (qs := [(0, .slice ad71 ((enc ((y68.length : Nat) : Int)).length) cp72)]) (cs := [.slice ad71 ((enc ((y68.length : Nat) : Int)).length) cp72]) rfl rfl rfl rfl Try.underlying22 inf_slice_34 (by decide) (by decide) (fill_one _ _ rfl) rfl rfl rfl rfl fun ad74 ac w hs => ?_))
                  replace hs := hs.freeze 4 rfl
                  replace hs := hs.freeze 3 rfl
                  refine lstep (wpO_plain rfl (op_callX (F := 38) (ρ := M1) hs none none [0] [0, 1, 2, 4, 3] (v := fun r => .tuple #[]) (S1 := [(true, .own (.slice am ks.length cm) 34 1 ks.length vs), (true, .own (.slice aa js.length ca) 34 1 js.length us), (true, .bysO G (vs ++ us ++ xs) (ks ++ js ++ ts)), (true, .cel (.slice ad74 1 1) 1 ([.slice ad71 ((enc ((y68.length : Nat) : Int)).length) cp72])), (true, .cel (.slice ad71 ((enc ((y68.length : Nat) : Int)).length) cp72) ((enc ((y68.length : Nat) : Int)).length) (bcs (enc ((y68.length : Nat) : Int))))]) (bs1 := [(true, gm, 61, [.slice am ks.length cm, .slice aa js.length ca, .int .i64 ((e66 : Nat) : Int)])]) (E := fun r => [(true, .own (.slice r.a ((ks ++ [enc ((y68.length : Nat) : Int)]).length) r.c) 34 1 ((ks ++ [enc ((y68.length : Nat) : Int)]).length) r.vs), (true, .own (.slice aa js.length ca) 34 1 js.length us), (true, .bysO r.G (r.vs ++ us ++ xs) ((ks ++ [enc ((y68.length : Nat) : Int)]) ++ js ++ ts)), (true, .cel (.slice ad74 1 1) 1 ([.slice ad71 ((enc ((y68.length : Nat) : Int)).length) cp72])), (true, .cel (.slice ad71 ((enc ((y68.length : Nat) : Int)).length) cp72) ((enc ((y68.length : Nat) : Int)).length) (bcs (enc ((y68.length : Nat) : Int))))]) (E1 := fun r => [(true, .own (.slice r.a ((ks ++ [enc ((y68.length : Nat) : Int)]).length) r.c) 34 1 ((ks ++ [enc ((y68.length : Nat) : Int)]).length) r.vs), (true, .own (.slice aa js.length ca) 34 1 js.length us), (true, .bysO r.G (r.vs ++ us ++ xs) ((ks ++ [enc ((y68.length : Nat) : Int)]) ++ js ++ ts)), (true, .cel (.slice ad74 1 1) 1 ([.slice ad71 ((enc ((y68.length : Nat) : Int)).length) cp72])), (true, .cel (.slice ad71 ((enc ((y68.length : Nat) : Int)).length) cp72) ((enc ((y68.length : Nat) : Int)).length) (bcs (enc ((y68.length : Nat) : Int))))]) (E2 := fun r => []) (bfA := fun r => [(true, gm, 61, [.slice r.a ((ks ++ [enc ((y68.length : Nat) : Int)]).length) r.c, .slice aa js.length ca, .int .i64 ((e66 : Nat) : Int)])]) (bf := fun r => [(true, gm, 61, [.slice r.a ((ks ++ [enc ((y68.length : Nat) : Int)]).length) r.c, .slice aa js.length ca, .int .i64 ((e66 : Nat) : Int)])]) (bf2 := fun r => []) rfl rfl rfl rfl rfl (Try.call38 _) rfl rfl (by decide) (by decide) (fun Z X hm => pushC_c gm am cm vs aa ca us G xs ts ks js e66 ad74 1 ad71 cp72 (enc ((y68.length : Nat) : Int)) (show (enc ((y68.length : Nat) : Int)).length ≤ 8000 by omega) (ok.mono (by decide)) ((enc ((y68.length : Nat) : Int)).length) rfl _ _ _ hm) (fun _ => rfl) (fun _ => rfl) (fun _ => rfl) (fun _ => rfl) (fun _ => rfl) rfl fun ⟨ad75, cp76, vs77, G78⟩ ac w hs => ?_))
                  refine wpList_nil ?_
                  refine blk_n ?_
                  refine then_n ?_
                  refine wp_seq ?_
                  replace hs : St 85 ⟨w0, [], [(true, .own (.slice ad75 ((ks ++ [enc ((y68.length : Nat) : Int)]).length) cp76) 34 1 ((ks ++ [enc ((y68.length : Nat) : Int)]).length) vs77), (true, .own (.slice aa js.length ca) 34 1 js.length us), (true, .bysO G78 (vs77 ++ us ++ xs) ((ks ++ [enc ((y68.length : Nat) : Int)]) ++ js ++ ts)), (true, .cel (.slice ad71 ((enc ((y68.length : Nat) : Int)).length) cp72) ((enc ((y68.length : Nat) : Int)).length) (bcs (enc ((y68.length : Nat) : Int)))), (true, .cel (.slice ad74 1 1) 1 ([.slice ad71 ((enc ((y68.length : Nat) : Int)).length) cp72]))], Z, X⟩ [(4, true, .bool false)] [(true, gm, 61, [.slice ad75 ((ks ++ [enc ((y68.length : Nat) : Int)]).length) cp76, .slice aa js.length ca, .int .i64 ((e66 : Nat) : Int)])] ac _ := hs.re ⟨rfl, trivial⟩
                  refine wp_region_lit ?_
                  refine lstep (wpO_plain rfl (op_assign hs none rfl rfl rfl rfl fun ac hs => ?_))
                  refine wpList_nil ?_
                  refine then_n ?_
                  refine wp_ret ?_
                  have HS := hs
                  obtain rfl : e66 = 0 := hp67
                  have h0 := hp
                  unfold redL at h0
                  rw [if_neg hp8, if_neg hp16, if_neg hp28, if_neg hp46, if_neg hp56, if_neg hp64, if_pos hp65] at h0
                  simp only [siz_yes he66 (dy68 : lastB ks = y68)] at h0
                  obtain ⟨hq, hk, he⟩ := inj3 h0
                  subst hq
                  subst hk
                  subst he
                  have hs := HS
                  exact bodyPost_ret (res1 rfl (rv_t hs rfl)) hs.defers ⟨⟨ad75, cp76, vs77, G78⟩, rfl, ((hs.selS [0, 1, 2] rfl (by decide)).selB [0] rfl (by decide)).mem⟩
                · skip
                  have hp79 := of_decide_eq_false hc
                  refine wp_skip ?_
                  refine blk_n ?_
                  refine then_n ?_
                  refine wp_seq ?_
                  replace hs : St 85 ⟨w0, [], [(true, .own (.slice am ks.length cm) 34 1 ks.length vs), (true, .own (.slice aa js.length ca) 34 1 js.length us), (true, .bysO G (vs ++ us ++ xs) (ks ++ js ++ ts))], Z, X⟩ [(4, true, .bool false)] [(true, gm, 61, [.slice am ks.length cm, .slice aa js.length ca, .int .i64 ((e66 : Nat) : Int)])] ac _ := hs.re ⟨rfl, trivial⟩
                  refine wp_region_lit ?_
                  refine lstep (wpO_plain rfl (op_assign hs none rfl rfl rfl rfl fun ac hs => ?_))
                  refine wpList_nil ?_
                  refine then_n ?_
                  refine wp_ret ?_
                  have HS := hs
                  have h0 := hp
                  unfold redL at h0
                  rw [if_neg hp8, if_neg hp16, if_neg hp28, if_neg hp46, if_neg hp56, if_neg hp64, if_pos hp65] at h0
                  simp only [siz_no (by rw [he66]; exact hp79)] at h0
                  rw [he66] at h0
                  obtain ⟨hq, hk, he⟩ := inj3 h0
                  subst hq
                  subst hk
                  subst he
                  have hs := HS
                  exact bodyPost_ret (res1 rfl (rv_t hs rfl)) hs.defers ⟨⟨am, cm, vs, G⟩, rfl, ((hs.selS [0, 1, 2] rfl (by decide)).selB [0] rfl (by decide)).mem⟩
              · skip
                have hp80 := of_decide_eq_false hc
                refine wp_seq ?_
                refine wp_region_lit ?_
                refine lstep (wpO_plain rfl (op_bin hs none (v := .bool (decide (op = 135))) rfl rfl rfl rfl (fun _ => rfl) (bin_eqlN (x := op) (y := 135)) rfl fun ac hs => ?_))
                refine lstep (wpO_plain rfl (op_assign hs none rfl rfl rfl rfl fun ac hs => ?_))
                refine wpList_nil ?_
                refine then_n ?_
                refine wp_cond_split (hs.ev rfl) (fun hc => ?_) (fun hc => ?_)
                · skip
                  have hp81 := of_decide_eq_true hc
                  replace hs : St 85 ⟨w0, [], [(true, .own (.slice am ks.length cm) 34 1 ks.length vs), (true, .own (.slice aa js.length ca) 34 1 js.length us), (true, .bysO G (vs ++ us ++ xs) (ks ++ js ++ ts))], Z, X⟩ [(0, true, .pointer (some ⟨gm, 0, none⟩)), (4, true, .bool false)] [(true, gm, 61, [.slice am ks.length cm, .slice aa js.length ca, .int .i64 ((er : Nat) : Int)])] ac _ := hs.re ⟨rfl, rfl, trivial⟩
                  refine wp_region_lit ?_
                  refine lstep (wpO_plain rfl (op_move hs none rfl rfl rfl rfl fun ac hs => ?_))
                  refine lstep (wpO_plain rfl (op_move hs none rfl rfl rfl rfl fun ac hs => ?_))
                  obtain ⟨q88, ks82, e83, hks82⟩ : ∃ z0 z1 z2, alikL ks er = (z0, z1, z2) := ⟨_, _, _, rfl⟩
                  have oks82 := alik_ok ok hks82
                  refine lstep (wpO_plain rfl (op_callX (F := 53) (ρ := M1) hs none none [0] [0, 1, 2] (v := fun r => .bool q88) (S1 := [(true, .own (.slice am ks.length cm) 34 1 ks.length vs), (true, .own (.slice aa js.length ca) 34 1 js.length us), (true, .bysO G (vs ++ us ++ xs) (ks ++ js ++ ts))]) (bs1 := [(true, gm, 61, [.slice am ks.length cm, .slice aa js.length ca, .int .i64 ((er : Nat) : Int)])]) (E := fun r => [(true, .own (.slice r.a ks82.length r.c) 34 1 ks82.length r.vs), (true, .own (.slice aa js.length ca) 34 1 js.length us), (true, .bysO r.G (r.vs ++ us ++ xs) (ks82 ++ js ++ ts))]) (E1 := fun r => [(true, .own (.slice r.a ks82.length r.c) 34 1 ks82.length r.vs), (true, .own (.slice aa js.length ca) 34 1 js.length us), (true, .bysO r.G (r.vs ++ us ++ xs) (ks82 ++ js ++ ts))]) (E2 := fun r => []) (bfA := fun r => [(true, gm, 61, [.slice r.a ks82.length r.c, .slice aa js.length ca, .int .i64 ((e83 : Nat) : Int)])]) (bf := fun r => [(true, gm, 61, [.slice r.a ks82.length r.c, .slice aa js.length ca, .int .i64 ((e83 : Nat) : Int)])]) (bf2 := fun r => []) rfl rfl rfl rfl rfl (Try.call53 _) rfl rfl (by decide) (by decide) (fun Z X hm => alike_c gm am cm vs aa ca us G xs ts ks js er q88 ks82 e83 (ok.mono (by decide)) hks82 _ _ _ hm) (fun _ => rfl) (fun _ => rfl) (fun _ => rfl) (fun _ => rfl) (fun _ => rfl) rfl fun ⟨ad84, cp85, vs86, G87⟩ ac w hs => ?_))
                  have lad89 : (flagL q88).length ≤ 1 := flagL_len _
                  refine lstep (wpO_plain rfl (op_callV (F := 52) (ρ := Option Addr × Nat) hs none none (v := fun r => .slice r.1 ((flagL q88).length) r.2) (E := fun r => [.own (.slice r.1 ((flagL q88).length) r.2) 5 1 ((flagL q88).length) (bcs (flagL q88))]) (j := 1) rfl rfl rfl rfl (Try.call52 _) (fun hs => flag_o q88 _ _) (fun _ => rfl) (fun _ => rfl) rfl rfl fun ⟨ad89, cp90⟩ ac w hs => ?_))
                  refine lstep (wpO_plain rfl (op_bsO hs none none (qs := [(0, .slice ad89 ((flagL q88).length) cp90)]) (cs := [.slice ad89 ((flagL q88).length) cp90]) rfl rfl rfl rfl Try.underlying22 inf_slice_34 (by decide) (by decide) (fill_one _ _ rfl) rfl rfl rfl rfl fun ad92 ac w hs => ?_))
                  replace hs := hs.freeze 4 rfl
                  replace hs := hs.freeze 3 rfl
                  refine lstep (wpO_plain rfl (op_callX (F := 38) (ρ := M1) hs none none [0] [0, 1, 2, 4, 3] (v := fun r => .tuple #[]) (S1 := [(true, .own (.slice ad84 ks82.length cp85) 34 1 ks82.length vs86), (true, .own (.slice aa js.length ca) 34 1 js.length us), (true, .bysO G87 (vs86 ++ us ++ xs) (ks82 ++ js ++ ts)), (true, .cel (.slice ad92 1 1) 1 ([.slice ad89 ((flagL q88).length) cp90])), (true, .cel (.slice ad89 ((flagL q88).length) cp90) ((flagL q88).length) (bcs (flagL q88)))]) (bs1 := [(true, gm, 61, [.slice ad84 ks82.length cp85, .slice aa js.length ca, .int .i64 ((e83 : Nat) : Int)])]) (E := fun r => [(true, .own (.slice r.a ((ks82 ++ [flagL q88]).length) r.c) 34 1 ((ks82 ++ [flagL q88]).length) r.vs), (true, .own (.slice aa js.length ca) 34 1 js.length us), (true, .bysO r.G (r.vs ++ us ++ xs) ((ks82 ++ [flagL q88]) ++ js ++ ts)), (true, .cel (.slice ad92 1 1) 1 ([.slice ad89 ((flagL q88).length) cp90])), (true, .cel (.slice ad89 ((flagL q88).length) cp90) ((flagL q88).length) (bcs (flagL q88)))]) (E1 := fun r => [(true, .own (.slice r.a ((ks82 ++ [flagL q88]).length) r.c) 34 1 ((ks82 ++ [flagL q88]).length) r.vs), (true, .own (.slice aa js.length ca) 34 1 js.length us), (true, .bysO r.G (r.vs ++ us ++ xs) ((ks82 ++ [flagL q88]) ++ js ++ ts)), (true, .cel (.slice ad92 1 1) 1 ([.slice ad89 ((flagL q88).length) cp90])), (true, .cel (.slice ad89 ((flagL q88).length) cp90) ((flagL q88).length) (bcs (flagL q88)))]) (E2 := fun r => []) (bfA := fun r => [(true, gm, 61, [.slice r.a ((ks82 ++ [flagL q88]).length) r.c, .slice aa js.length ca, .int .i64 ((e83 : Nat) : Int)])]) (bf := fun r => [(true, gm, 61, [.slice r.a ((ks82 ++ [flagL q88]).length) r.c, .slice aa js.length ca, .int .i64 ((e83 : Nat) : Int)])]) (bf2 := fun r => []) rfl rfl rfl rfl rfl (Try.call38 _) rfl rfl (by decide) (by decide) (fun Z X hm => pushC_c gm ad84 cp85 vs86 aa ca us G87 xs ts ks82 js e83 ad92 1 ad89 cp90 (flagL q88) (show (flagL q88).length ≤ 8000 by omega) (oks82.mono (by decide)) ((flagL q88).length) rfl _ _ _ hm) (fun _ => rfl) (fun _ => rfl) (fun _ => rfl) (fun _ => rfl) (fun _ => rfl) rfl fun ⟨ad93, cp94, vs95, G96⟩ ac w hs => ?_))
                  refine wpList_nil ?_
                  refine blk_n ?_
                  refine then_n ?_
                  refine wp_seq ?_
                  replace hs : St 85 ⟨w0, [], [(true, .own (.slice ad93 ((ks82 ++ [flagL q88]).length) cp94) 34 1 ((ks82 ++ [flagL q88]).length) vs95), (true, .own (.slice aa js.length ca) 34 1 js.length us), (true, .bysO G96 (vs95 ++ us ++ xs) ((ks82 ++ [flagL q88]) ++ js ++ ts)), (true, .cel (.slice ad89 ((flagL q88).length) cp90) ((flagL q88).length) (bcs (flagL q88))), (true, .cel (.slice ad92 1 1) 1 ([.slice ad89 ((flagL q88).length) cp90]))], Z, X⟩ [(4, true, .bool false)] [(true, gm, 61, [.slice ad93 ((ks82 ++ [flagL q88]).length) cp94, .slice aa js.length ca, .int .i64 ((e83 : Nat) : Int)])] ac _ := hs.re ⟨rfl, trivial⟩
                  refine wp_region_lit ?_
                  refine lstep (wpO_plain rfl (op_assign hs none rfl rfl rfl rfl fun ac hs => ?_))
                  refine wpList_nil ?_
                  refine then_n ?_
                  refine wp_ret ?_
                  have HS := hs
                  have h0 := hp
                  unfold redL at h0
                  rw [if_neg hp8, if_neg hp16, if_neg hp28, if_neg hp46, if_neg hp56, if_neg hp64, if_neg hp80, if_pos hp81] at h0
                  simp only [hks82] at h0
                  obtain ⟨hq, hk, he⟩ := inj3 h0
                  subst hq
                  subst hk
                  subst he
                  have hs := HS
                  exact bodyPost_ret (res1 rfl (rv_t hs rfl)) hs.defers ⟨⟨ad93, cp94, vs95, G96⟩, rfl, ((hs.selS [0, 1, 2] rfl (by decide)).selB [0] rfl (by decide)).mem⟩
                · skip
                  have hp97 := of_decide_eq_false hc
                  refine wp_seq ?_
                  replace hs : St 85 ⟨w0, [], [(true, .own (.slice am ks.length cm) 34 1 ks.length vs), (true, .own (.slice aa js.length ca) 34 1 js.length us), (true, .bysO G (vs ++ us ++ xs) (ks ++ js ++ ts))], Z, X⟩ [(0, true, .pointer (some ⟨gm, 0, none⟩)), (4, true, .bool false), (6, true, .int .u8 ((op : Nat) : Int))] [(true, gm, 61, [.slice am ks.length cm, .slice aa js.length ca, .int .i64 ((er : Nat) : Int)])] ac _ := hs.re ⟨rfl, rfl, rfl, trivial⟩
                  refine wp_region_lit ?_
                  refine lstep (wpO_plain rfl (op_bin hs none (v := .bool (decide (op = 136))) rfl rfl rfl rfl (fun _ => rfl) (bin_eqlN (x := op) (y := 136)) rfl fun ac hs => ?_))
                  refine lstep (wpO_plain rfl (op_assign hs none rfl rfl rfl rfl fun ac hs => ?_))
                  refine wpList_nil ?_
                  refine then_n ?_
                  refine wp_cond_split (hs.ev rfl) (fun hc => ?_) (fun hc => ?_)
                  · skip
                    have hp98 := of_decide_eq_true hc
                    refine wp_region_lit ?_
                    refine lstep (wpO_plain rfl (op_move hs none rfl rfl rfl rfl fun ac hs => ?_))
                    refine lstep (wpO_plain rfl (op_move hs none rfl rfl rfl rfl fun ac hs => ?_))
                    obtain ⟨q105, ks99, e100, hks99⟩ : ∃ z0 z1 z2, alikL ks er = (z0, z1, z2) := ⟨_, _, _, rfl⟩
                    have oks99 := alik_ok ok hks99
                    refine lstep (wpO_plain rfl (op_callX (F := 53) (ρ := M1) hs none none [0] [0, 1, 2] (v := fun r => .bool q105) (S1 := [(true, .own (.slice am ks.length cm) 34 1 ks.length vs), (true, .own (.slice aa js.length ca) 34 1 js.length us), (true, .bysO G (vs ++ us ++ xs) (ks ++ js ++ ts))]) (bs1 := [(true, gm, 61, [.slice am ks.length cm, .slice aa js.length ca, .int .i64 ((er : Nat) : Int)])]) (E := fun r => [(true, .own (.slice r.a ks99.length r.c) 34 1 ks99.length r.vs), (true, .own (.slice aa js.length ca) 34 1 js.length us), (true, .bysO r.G (r.vs ++ us ++ xs) (ks99 ++ js ++ ts))]) (E1 := fun r => [(true, .own (.slice r.a ks99.length r.c) 34 1 ks99.length r.vs), (true, .own (.slice aa js.length ca) 34 1 js.length us), (true, .bysO r.G (r.vs ++ us ++ xs) (ks99 ++ js ++ ts))]) (E2 := fun r => []) (bfA := fun r => [(true, gm, 61, [.slice r.a ks99.length r.c, .slice aa js.length ca, .int .i64 ((e100 : Nat) : Int)])]) (bf := fun r => [(true, gm, 61, [.slice r.a ks99.length r.c, .slice aa js.length ca, .int .i64 ((e100 : Nat) : Int)])]) (bf2 := fun r => []) rfl rfl rfl rfl rfl (Try.call53 _) rfl rfl (by decide) (by decide) (fun Z X hm => alike_c gm am cm vs aa ca us G xs ts ks js er q105 ks99 e100 (ok.mono (by decide)) hks99 _ _ _ hm) (fun _ => rfl) (fun _ => rfl) (fun _ => rfl) (fun _ => rfl) (fun _ => rfl) rfl fun ⟨ad101, cp102, vs103, G104⟩ ac w hs => ?_))
                    obtain ⟨e106, he106⟩ : ∃ z0, mustE q105 e100 = z0 := ⟨_, rfl⟩
                    refine lstep (wpO_plain rfl (op_callX (F := 46) (ρ := Unit) hs none none [0] [] (v := fun r => .tuple #[]) (S1 := []) (bs1 := [(true, gm, 61, [.slice ad101 ks99.length cp102, .slice aa js.length ca, .int .i64 ((e100 : Nat) : Int)])]) (E := fun r => []) (E1 := fun r => []) (E2 := fun r => []) (bfA := fun r => [(true, gm, 61, [.slice ad101 ks99.length cp102, .slice aa js.length ca, .int .i64 ((e106 : Nat) : Int)])]) (bf := fun r => [(true, gm, 61, [.slice ad101 ks99.length cp102, .slice aa js.length ca, .int .i64 ((e106 : Nat) : Int)])]) (bf2 := fun r => []) rfl rfl rfl rfl rfl (Try.call46 _) rfl rfl (by decide) (by decide) (fun Z X hm => must_c gm (.slice ad101 ks99.length cp102) (.slice aa js.length ca) e100 q105 e106 he106 _ _ _ hm) (fun _ => rfl) (fun _ => rfl) (fun _ => rfl) (fun _ => rfl) (fun _ => rfl) rfl fun _ ac w hs => ?_))
                    refine wpList_nil ?_
                    refine blk_n ?_
                    refine then_n ?_
                    refine wp_seq ?_
                    replace hs : St 85 ⟨w0, [], [(true, .own (.slice ad101 ks99.length cp102) 34 1 ks99.length vs103), (true, .own (.slice aa js.length ca) 34 1 js.length us), (true, .bysO G104 (vs103 ++ us ++ xs) (ks99 ++ js ++ ts))], Z, X⟩ [(4, true, .bool false)] [(true, gm, 61, [.slice ad101 ks99.length cp102, .slice aa js.length ca, .int .i64 ((e106 : Nat) : Int)])] ac _ := hs.re ⟨rfl, trivial⟩
                    refine wp_region_lit ?_
                    refine lstep (wpO_plain rfl (op_assign hs none rfl rfl rfl rfl fun ac hs => ?_))
                    refine wpList_nil ?_
                    refine then_n ?_
                    refine wp_ret ?_
                    have HS := hs
                    have h0 := hp
                    unfold redL at h0
                    rw [if_neg hp8, if_neg hp16, if_neg hp28, if_neg hp46, if_neg hp56, if_neg hp64, if_neg hp80, if_neg hp97, if_pos hp98] at h0
                    simp only [hks99, he106] at h0
                    obtain ⟨hq, hk, he⟩ := inj3 h0
                    subst hq
                    subst hk
                    subst he
                    have hs := HS
                    exact bodyPost_ret (res1 rfl (rv_t hs rfl)) hs.defers ⟨⟨ad101, cp102, vs103, G104⟩, rfl, ((hs.selS [0, 1, 2] rfl (by decide)).selB [0] rfl (by decide)).mem⟩
                  · skip
                    have hp107 := of_decide_eq_false hc
                    refine wp_seq ?_
                    refine wp_region_lit ?_
                    refine lstep (wpO_plain rfl (op_bin hs none (v := .bool (decide (op = 168))) rfl rfl rfl rfl (fun _ => rfl) (bin_eqlN (x := op) (y := 168)) rfl fun ac hs => ?_))
                    refine lstep (wpO_plain rfl (op_assign hs none rfl rfl rfl rfl fun ac hs => ?_))
                    refine wpList_nil ?_
                    refine then_n ?_
                    refine wp_cond_split (hs.ev rfl) (fun hc => ?_) (fun hc => ?_)
                    · skip
                      have hp108 := of_decide_eq_true hc
                      refine wp_region_lit ?_
                      refine lstep (wpO_plain rfl (op_move hs none rfl rfl rfl rfl fun ac hs => ?_))
                      obtain ⟨ks109, e110, hks109⟩ : ∃ z0 z1, hashL shaV ks er = (z0, z1) := ⟨_, _, rfl⟩
                      have oks109 := hash_ok (fun _ => btl32 _) (by decide) ok hks109
                      refine lstep (wpO_plain rfl (op_callX (F := 54) (ρ := M1) hs none none [0] [0, 1, 2] (v := fun r => .tuple #[]) (S1 := [(true, .own (.slice am ks.length cm) 34 1 ks.length vs), (true, .own (.slice aa js.length ca) 34 1 js.length us), (true, .bysO G (vs ++ us ++ xs) (ks ++ js ++ ts))]) (bs1 := [(true, gm, 61, [.slice am ks.length cm, .slice aa js.length ca, .int .i64 ((er : Nat) : Int)])]) (E := fun r => [(true, .own (.slice r.a ks109.length r.c) 34 1 ks109.length r.vs), (true, .own (.slice aa js.length ca) 34 1 js.length us), (true, .bysO r.G (r.vs ++ us ++ xs) (ks109 ++ js ++ ts))]) (E1 := fun r => [(true, .own (.slice r.a ks109.length r.c) 34 1 ks109.length r.vs), (true, .own (.slice aa js.length ca) 34 1 js.length us), (true, .bysO r.G (r.vs ++ us ++ xs) (ks109 ++ js ++ ts))]) (E2 := fun r => []) (bfA := fun r => [(true, gm, 61, [.slice r.a ks109.length r.c, .slice aa js.length ca, .int .i64 ((e110 : Nat) : Int)])]) (bf := fun r => [(true, gm, 61, [.slice r.a ks109.length r.c, .slice aa js.length ca, .int .i64 ((e110 : Nat) : Int)])]) (bf2 := fun r => []) rfl rfl rfl rfl rfl (Try.call54 _) rfl rfl (by decide) (by decide) (fun Z X hm => hashS_c gm am cm vs aa ca us G xs ts ks js er ks109 e110 (ok.mono (by decide)) hks109 _ _ _ hm) (fun _ => rfl) (fun _ => rfl) (fun _ => rfl) (fun _ => rfl) (fun _ => rfl) rfl fun ⟨ad111, cp112, vs113, G114⟩ ac w hs => ?_))
                      refine wpList_nil ?_
                      refine blk_n ?_
                      refine then_n ?_
                      refine wp_seq ?_
                      replace hs : St 85 ⟨w0, [], [(true, .own (.slice ad111 ks109.length cp112) 34 1 ks109.length vs113), (true, .own (.slice aa js.length ca) 34 1 js.length us), (true, .bysO G114 (vs113 ++ us ++ xs) (ks109 ++ js ++ ts))], Z, X⟩ [(4, true, .bool false)] [(true, gm, 61, [.slice ad111 ks109.length cp112, .slice aa js.length ca, .int .i64 ((e110 : Nat) : Int)])] ac _ := hs.re ⟨rfl, trivial⟩
                      refine wp_region_lit ?_
                      refine lstep (wpO_plain rfl (op_assign hs none rfl rfl rfl rfl fun ac hs => ?_))
                      refine wpList_nil ?_
                      refine then_n ?_
                      refine wp_ret ?_
                      have HS := hs
                      have h0 := hp
                      unfold redL at h0
                      rw [if_neg hp8, if_neg hp16, if_neg hp28, if_neg hp46, if_neg hp56, if_neg hp64, if_neg hp80, if_neg hp97, if_neg hp107, if_pos hp108] at h0
                      simp only [hks109] at h0
                      obtain ⟨hq, hk, he⟩ := inj3 h0
                      subst hq
                      subst hk
                      subst he
                      have hs := HS
                      exact bodyPost_ret (res1 rfl (rv_t hs rfl)) hs.defers ⟨⟨ad111, cp112, vs113, G114⟩, rfl, ((hs.selS [0, 1, 2] rfl (by decide)).selB [0] rfl (by decide)).mem⟩
                    · skip
                      have hp115 := of_decide_eq_false hc
                      refine wp_seq ?_
                      refine wp_region_lit ?_
                      refine lstep (wpO_plain rfl (op_bin hs none (v := .bool (decide (op = 170))) rfl rfl rfl rfl (fun _ => rfl) (bin_eqlN (x := op) (y := 170)) rfl fun ac hs => ?_))
                      refine lstep (wpO_plain rfl (op_assign hs none rfl rfl rfl rfl fun ac hs => ?_))
                      refine wpList_nil ?_
                      refine then_n ?_
                      refine wp_cond_split (hs.ev rfl) (fun hc => ?_) (fun hc => ?_)
                      · skip
                        have hp116 := of_decide_eq_true hc
                        replace hs : St 85 ⟨w0, [], [(true, .own (.slice am ks.length cm) 34 1 ks.length vs), (true, .own (.slice aa js.length ca) 34 1 js.length us), (true, .bysO G (vs ++ us ++ xs) (ks ++ js ++ ts))], Z, X⟩ [(0, true, .pointer (some ⟨gm, 0, none⟩)), (4, true, .bool false)] [(true, gm, 61, [.slice am ks.length cm, .slice aa js.length ca, .int .i64 ((er : Nat) : Int)])] ac _ := hs.re ⟨rfl, rfl, trivial⟩
                        refine wp_region_lit ?_
                        refine lstep (wpO_plain rfl (op_move hs none rfl rfl rfl rfl fun ac hs => ?_))
                        obtain ⟨ks117, e118, hks117⟩ : ∃ z0 z1, hashL dblV ks er = (z0, z1) := ⟨_, _, rfl⟩
                        have oks117 := hash_ok (fun _ => btl32 _) (by decide) ok hks117
                        refine lstep (wpO_plain rfl (op_callX (F := 54) (ρ := M1) hs none none [0] [0, 1, 2] (v := fun r => .tuple #[]) (S1 := [(true, .own (.slice am ks.length cm) 34 1 ks.length vs), (true, .own (.slice aa js.length ca) 34 1 js.length us), (true, .bysO G (vs ++ us ++ xs) (ks ++ js ++ ts))]) (bs1 := [(true, gm, 61, [.slice am ks.length cm, .slice aa js.length ca, .int .i64 ((er : Nat) : Int)])]) (E := fun r => [(true, .own (.slice r.a ks117.length r.c) 34 1 ks117.length r.vs), (true, .own (.slice aa js.length ca) 34 1 js.length us), (true, .bysO r.G (r.vs ++ us ++ xs) (ks117 ++ js ++ ts))]) (E1 := fun r => [(true, .own (.slice r.a ks117.length r.c) 34 1 ks117.length r.vs), (true, .own (.slice aa js.length ca) 34 1 js.length us), (true, .bysO r.G (r.vs ++ us ++ xs) (ks117 ++ js ++ ts))]) (E2 := fun r => []) (bfA := fun r => [(true, gm, 61, [.slice r.a ks117.length r.c, .slice aa js.length ca, .int .i64 ((e118 : Nat) : Int)])]) (bf := fun r => [(true, gm, 61, [.slice r.a ks117.length r.c, .slice aa js.length ca, .int .i64 ((e118 : Nat) : Int)])]) (bf2 := fun r => []) rfl rfl rfl rfl rfl (Try.call54 _) rfl rfl (by decide) (by decide) (fun Z X hm => hashD_c gm am cm vs aa ca us G xs ts ks js er ks117 e118 (ok.mono (by decide)) hks117 _ _ _ hm) (fun _ => rfl) (fun _ => rfl) (fun _ => rfl) (fun _ => rfl) (fun _ => rfl) rfl fun ⟨ad119, cp120, vs121, G122⟩ ac w hs => ?_))
                        refine wpList_nil ?_
                        refine blk_n ?_
                        refine then_n ?_
                        refine wp_seq ?_
                        refine wp_region_lit ?_
                        refine lstep (wpO_plain rfl (op_assign hs none rfl rfl rfl rfl fun ac hs => ?_))
                        refine wpList_nil ?_
                        refine then_n ?_
                        refine wp_ret ?_
                        have HS := hs
                        have h0 := hp
                        unfold redL at h0
                        rw [if_neg hp8, if_neg hp16, if_neg hp28, if_neg hp46, if_neg hp56, if_neg hp64, if_neg hp80, if_neg hp97, if_neg hp107, if_neg hp115, if_pos hp116] at h0
                        simp only [hks117] at h0
                        obtain ⟨hq, hk, he⟩ := inj3 h0
                        subst hq
                        subst hk
                        subst he
                        have hs := HS
                        exact bodyPost_ret (res1 rfl (rv_t hs rfl)) hs.defers ⟨⟨ad119, cp120, vs121, G122⟩, rfl, ((hs.selS [0, 1, 2] rfl (by decide)).selB [0] rfl (by decide)).mem⟩
                      · skip
                        have hp123 := of_decide_eq_false hc
                        refine wp_seq ?_
                        replace hs : St 85 ⟨w0, [], [(true, .own (.slice am ks.length cm) 34 1 ks.length vs), (true, .own (.slice aa js.length ca) 34 1 js.length us), (true, .bysO G (vs ++ us ++ xs) (ks ++ js ++ ts))], Z, X⟩ [(4, true, .bool false)] [(true, gm, 61, [.slice am ks.length cm, .slice aa js.length ca, .int .i64 ((er : Nat) : Int)])] ac _ := hs.re ⟨rfl, trivial⟩
                        refine wp_region_lit ?_
                        refine lstep (wpO_plain rfl (op_assign hs none rfl rfl rfl rfl fun ac hs => ?_))
                        refine wpList_nil ?_
                        refine then_n ?_
                        refine wp_ret ?_
                        refine blk_r ?_
                        refine then_r ?_
                        have HS := hs
                        have h0 := hp
                        unfold redL at h0
                        rw [if_neg hp8, if_neg hp16, if_neg hp28, if_neg hp46, if_neg hp56, if_neg hp64, if_neg hp80, if_neg hp97, if_neg hp107, if_neg hp115, if_neg hp123] at h0
                        obtain ⟨hq, hk, he⟩ := inj3 h0
                        subst hq
                        subst hk
                        subst he
                        have hs := HS
                        exact bodyPost_ret (res1 rfl (rv_t hs rfl)) hs.defers ⟨⟨am, cm, vs, G⟩, rfl, ((hs.selS [0, 1, 2] rfl (by decide)).selB [0] rfl (by decide)).mem⟩
theorem reckons_c (gm : Nat) (am : Option Addr) (cm : Nat) (vs : List Value) (aa : Option Addr) (ca : Nat) (us : List Value) (G : Nat → Prop) (xs : List Value) (ts : BL) (ks js : BL) (er : Nat) (op : Nat) (q : Bool) (k1 : BL) (e1 : Nat) (ok : OkN 2900 ks) (hp : recL op ks er = (q, k1, e1)) (w0 : World) (Z X : Nat → Prop) (hm : Mem ⟨w0, [], [(true, .own (.slice am ks.length cm) 34 1 ks.length vs), (true, .own (.slice aa js.length ca) 34 1 js.length us), (true, .bysO G (vs ++ us ++ xs) (ks ++ js ++ ts))], Z, X⟩ [(true, gm, 61, [.slice am ks.length cm, .slice aa js.length ca, .int .i64 ((er : Nat) : Int)])] w0) : Calls Try.prog 29 #[.pointer (some ⟨gm, 0, none⟩), .int .u8 ((op : Nat) : Int)] w0 fun e w' => PostX w0 Z X (ρ := M1) (fun r => .bool q) (fun r => [(true, gm, 61, [.slice r.a k1.length r.c, .slice aa js.length ca, .int .i64 ((e1 : Nat) : Int)])]) (fun r => [(true, .own (.slice r.a k1.length r.c) 34 1 k1.length r.vs), (true, .own (.slice aa js.length ca) 34 1 js.length us), (true, .bysO r.G (r.vs ++ us ++ xs) (k1 ++ js ++ ts))]) e w' := by
  have hk8 : ks.length ≤ 2900 := ok.1
  refine enterX (n := 90) (args := [.pointer (some ⟨gm, 0, none⟩), .int .u8 ((op : Nat) : Int)]) Try.func29 rfl rfl (Nat.le_of_ble_eq_true rfl) hm fun ac hs => ?_
  have hv := hs.ownLen 0 rfl
  have hu := hs.ownLen 1 rfl
  refine wp_seq ?_
  refine wp_region_lit ?_
  refine lstep (wpO_plain rfl (op_assign hs none rfl rfl rfl rfl fun ac hs => ?_))
  refine wpList_nil ?_
  refine then_n ?_
  refine wp_seq ?_
  refine wp_seq ?_
  refine wp_region_lit ?_
  refine lstep (wpO_plain rfl (op_move hs none rfl rfl rfl rfl fun ac hs => ?_))
  refine lstep (wpO_plain rfl (op_bin hs none (v := .bool (decide (op = 165))) rfl rfl rfl rfl (fun _ => rfl) (bin_eqlN (x := op) (y := 165)) rfl fun ac hs => ?_))
  refine wpList_nil ?_
  refine then_n ?_
  refine wp_cond_split (hs.ev rfl) (fun hc => ?_) (fun hc => ?_)
  · skip
    have hp1 := of_decide_eq_true hc
    refine wp_seq ?_
    refine wp_region_lit ?_
    refine lstep (wpO_plain rfl (op_move hs none rfl rfl rfl rfl fun ac hs => ?_))
    obtain ⟨zs7, ks2, e3, hks2⟩ : ∃ z0 z1 z2, opsL 3 ks er = (z0, z1, z2) := ⟨_, _, _, rfl⟩
    obtain ⟨oks2, lzs7, bzs7⟩ := ops_ok ok hks2
    obtain ⟨z4, z5, z6, rfl⟩ := len3 lzs7
    have bz4 := bzs7 z4 (by simp)
    have bz5 := bzs7 z5 (by simp)
    have bz6 := bzs7 z6 (by simp)
    refine lstep (wpO_plain rfl (op_callX (F := 57) (ρ := M1o) hs none none [0] [0, 1, 2] (v := fun r => .slice (some ⟨r.o, 0, none⟩) 3 3) (S1 := [(true, .own (.slice am ks.length cm) 34 1 ks.length vs), (true, .own (.slice aa js.length ca) 34 1 js.length us), (true, .bysO G (vs ++ us ++ xs) (ks ++ js ++ ts))]) (bs1 := [(true, gm, 61, [.slice am ks.length cm, .slice aa js.length ca, .int .i64 ((er : Nat) : Int)])]) (E := fun r => [(true, .own (.slice r.a ks2.length r.c) 34 1 ks2.length r.vs), (true, .own (.slice aa js.length ca) 34 1 js.length us), (true, .bysO G (r.vs ++ us ++ xs) (ks2 ++ js ++ ts))]) (E1 := fun r => [(true, .own (.slice r.a ks2.length r.c) 34 1 ks2.length r.vs), (true, .own (.slice aa js.length ca) 34 1 js.length us), (true, .bysO G (r.vs ++ us ++ xs) (ks2 ++ js ++ ts))]) (E2 := fun r => []) (bfA := fun r => [(true, gm, 61, [.slice r.a ks2.length r.c, .slice aa js.length ca, .int .i64 ((e3 : Nat) : Int)]), (true, r.o, 2, [.int .i64 z4, .int .i64 z5, .int .i64 z6])]) (bf := fun r => [(true, gm, 61, [.slice r.a ks2.length r.c, .slice aa js.length ca, .int .i64 ((e3 : Nat) : Int)])]) (bf2 := fun r => [(true, r.o, 2, [.int .i64 z4, .int .i64 z5, .int .i64 z6])]) rfl rfl rfl rfl rfl (Try.call57 _) rfl rfl (by decide) (by decide) (fun Z X hm => ops3_c gm am cm vs aa ca us G xs ts ks js er z4 z5 z6 ks2 e3 (ok.mono (by decide)) hks2 _ _ _ hm) (fun _ => rfl) (fun _ => rfl) (fun _ => rfl) (fun _ => rfl) (fun _ => rfl) rfl fun ⟨ad8, cp9, vs10, g11⟩ ac w hs => ?_))
    refine lstep (wpO_plain rfl (op_assign hs none rfl rfl rfl rfl fun ac hs => ?_))
    refine wpList_nil ?_
    refine then_n ?_
    refine wp_seq ?_
    by_cases hq12 : z5 ≤ z4
    · skip
      replace hs : St 90 ⟨w0, [], [(true, .own (.slice ad8 ks2.length cp9) 34 1 ks2.length vs10), (true, .own (.slice aa js.length ca) 34 1 js.length us), (true, .bysO G (vs10 ++ us ++ xs) (ks2 ++ js ++ ts))], Z, X⟩ [(0, true, .pointer (some ⟨gm, 0, none⟩)), (1, true, .int .u8 ((op : Nat) : Int)), (4, true, .bool false), (5, true, .slice (some ⟨g11, 0, none⟩) 3 3)] [(true, gm, 61, [.slice ad8 ks2.length cp9, .slice aa js.length ca, .int .i64 ((e3 : Nat) : Int)]), (true, g11, 2, [.int .i64 z4, .int .i64 z5, .int .i64 z6])] ac _ := hs.re ⟨rfl, rfl, rfl, rfl, trivial⟩
      have lad13 : (flagL (decide (z4 < z6))).length ≤ 1 := flagL_len _
      refine region_inv [([], [19]), ([], [2, 3, 7, 8, 9, 10, 11, 12, 13, 14, 15, 16, 17, 18, 19]), ([1], [3, 7, 8, 9, 10, 11, 12, 13, 14, 15, 16, 17, 18, 19]), ([1, 2], [7, 8, 9, 10, 11, 12, 13, 14, 15, 16, 17, 18, 19]), ([], [5, 6, 7, 8, 9, 10, 11, 12, 13, 14, 15, 16, 17, 18, 19]), ([4], [6, 7, 8, 9, 10, 11, 12, 13, 14, 15, 16, 17, 18, 19]), ([4, 5], [7, 8, 9, 10, 11, 12, 13, 14, 15, 16, 17, 18, 19]), ([1, 2, 3, 4, 5, 6], [8, 9, 10, 11, 12, 13, 14, 15, 16, 17, 18, 19]), ([1, 2, 3, 4, 5, 6, 7], [9, 10, 11, 12, 13, 14, 15, 16, 17, 18, 19]), ([1, 2, 3, 4, 5, 6, 7, 8], [10, 11, 15, 16, 17, 18, 19]), ([1, 2, 3, 4, 5, 6, 7, 8, 9], [11, 15, 16, 17, 18, 19]), ([1, 2, 3, 4, 5, 6, 7, 8, 9, 10], [15, 16, 17, 18, 19]), ([1, 2, 3, 4, 5, 6, 7, 8], [13, 14, 15, 16, 17, 18, 19]), ([1, 2, 3, 4, 5, 6, 7, 8, 12], [14, 15, 16, 17, 18, 19]), ([1, 2, 3, 4, 5, 6, 7, 8, 12, 13], [15, 16, 17, 18, 19]), ([1, 2, 3, 4, 5, 6, 7, 8, 9, 10, 11, 12, 13, 14], [16, 17, 18, 19]), ([1, 2, 3, 4, 5, 6, 7, 8, 9, 10, 11, 12, 13, 14, 15], [17, 18, 19]), ([1, 2, 3, 4, 5, 6, 7, 8, 9, 10, 11, 12, 13, 14, 15, 16], [18, 19]), ([1, 2, 3, 4, 5, 6, 7, 8, 9, 10, 11, 12, 13, 14, 15, 16, 17], [19]), ([0, 1, 2, 3, 4, 5, 6, 7, 8, 9, 10, 11, 12, 13, 14, 15, 16, 17, 18], [])] (fun L ac w => ∃ (ad13 : Option Addr) (cp14 : Nat) (ad16 : Option Addr) (ad17 : Option Addr) (cp18 : Nat) (vs19 : List Value) (G20 : Nat → Prop), St 90 ⟨w0, [], [(true, cond (L 19) (.own (.slice ad17 ((ks2 ++ [flagL (decide (z4 < z6))]).length) cp18) 34 1 ((ks2 ++ [flagL (decide (z4 < z6))]).length) vs19) (.own (.slice ad8 ks2.length cp9) 34 1 ks2.length vs10)), (true, .own (.slice aa js.length ca) 34 1 js.length us), (true, cond (L 19) (.bysO G20 (vs19 ++ us ++ xs) ((ks2 ++ [flagL (decide (z4 < z6))]) ++ js ++ ts)) (.bysO G (vs10 ++ us ++ xs) (ks2 ++ js ++ ts))), (L 17, cond (L 19) (.cel (.slice ad13 ((flagL (decide (z4 < z6))).length) cp14) ((flagL (decide (z4 < z6))).length) (bcs (flagL (decide (z4 < z6))))) (.own (.slice ad13 ((flagL (decide (z4 < z6))).length) cp14) 5 1 ((flagL (decide (z4 < z6))).length) (bcs (flagL (decide (z4 < z6)))))), (L 18, cond (L 19) (.cel (.slice ad16 1 1) 1 ([.slice ad13 ((flagL (decide (z4 < z6))).length) cp14])) (cond (L 18) (.own (.slice ad16 1 1) 34 1 1 ([.slice ad13 ((flagL (decide (z4 < z6))).length) cp14])) (.bys [] [])))], Z, X⟩ [(19, L 0, .pointer (some ⟨gm, 0, none⟩)), (20, L 1, .slice (some ⟨g11, 0, none⟩) 3 3), (21, L 2, .pointer (some ⟨g11, 0, none⟩)), (22, L 3, .int .i64 z4), (23, L 4, .slice (some ⟨g11, 0, none⟩) 3 3), (24, L 5, .pointer (some ⟨g11, 1, none⟩)), (25, L 6, .int .i64 z5), (26, L 7, .bool true), (27, L 8, .bool true), (28, L 9, .slice (some ⟨g11, 0, none⟩) 3 3), (29, L 10, .pointer (some ⟨g11, 0, none⟩)), (30, L 11, .int .i64 z4), (31, L 12, .slice (some ⟨g11, 0, none⟩) 3 3), (32, L 13, .pointer (some ⟨g11, 2, none⟩)), (33, L 14, .int .i64 z6), (34, L 15, .bool (decide (z4 < z6))), (35, L 16, .bool (decide (z4 < z6))), (36, L 17, .slice ad13 ((flagL (decide (z4 < z6))).length) cp14), (37, L 18, .slice ad16 1 1), (38, L 19, .tuple #[]), (0, true, .pointer (some ⟨gm, 0, none⟩)), (1, true, .int .u8 ((op : Nat) : Int)), (4, true, .bool false), (5, true, .slice (some ⟨g11, 0, none⟩) 3 3)] [(true, gm, 61, (cond (L 19) [.slice ad17 ((ks2 ++ [flagL (decide (z4 < z6))]).length) cp18, .slice aa js.length ca, .int .i64 ((e3 : Nat) : Int)] [.slice ad8 ks2.length cp9, .slice aa js.length ca, .int .i64 ((e3 : Nat) : Int)])), (true, g11, 2, [.int .i64 z4, .int .i64 z5, .int .i64 z6])] ac w) (by kernel_rfl) (by kernel_rfl) ?_ ?_ ?_
      · exact ⟨none, 0, none, none, 0, [], noX, hs.drew.skip.skip.skip.skip.skip.skip.skip.skip.skip.skip.skip.skip.skip.skip.skip.skip.skip.skip.skip.skip.padS.padS⟩
      · refine ⟨?_, ?_, ?_, ?_, ?_, ?_, ?_, ?_, ?_, ?_, ?_, ?_, ?_, ?_, ?_, ?_, ?_, ?_, ?_, ?_, trivial⟩
        · intro L ac w hJ
          obtain ⟨ad13, cp14, ad16, ad17, cp18, vs19, G20, hs⟩ := hJ
          refine wpO_plain rfl (op_move hs (some 0) rfl rfl rfl rfl fun ac hs => ?_)
          exact ⟨ad13, cp14, ad16, ad17, cp18, vs19, G20, hs⟩
        · intro L ac w hJ
          obtain ⟨ad13, cp14, ad16, ad17, cp18, vs19, G20, hs⟩ := hJ
          refine wpO_plain rfl (op_move hs (some 1) rfl rfl rfl rfl fun ac hs => ?_)
          exact ⟨ad13, cp14, ad16, ad17, cp18, vs19, G20, hs⟩
        · intro L ac w hJ
          obtain ⟨ad13, cp14, ad16, ad17, cp18, vs19, G20, hs⟩ := hJ
          refine wpO_plain rfl (op_idxS hs (some 2) (j := 0) rfl rfl rfl rfl Try.underlying73 Try.sizeOf2 (by decide) (off := 0) rfl rfl fun ac hs => ?_)
          exact ⟨ad13, cp14, ad16, ad17, cp18, vs19, G20, hs⟩
        · intro L ac w hJ
          obtain ⟨ad13, cp14, ad16, ad17, cp18, vs19, G20, hs⟩ := hJ
          refine wpO_plain rfl (op_load hs (some 3) 1 (v := .int .i64 z4) rfl rfl rfl rfl Try.isAgg2 Try.sizeOf2 rfl rfl fun ac hs => ?_)
          exact ⟨ad13, cp14, ad16, ad17, cp18, vs19, G20, hs⟩
        · intro L ac w hJ
          obtain ⟨ad13, cp14, ad16, ad17, cp18, vs19, G20, hs⟩ := hJ
          refine wpO_plain rfl (op_move hs (some 4) rfl rfl rfl rfl fun ac hs => ?_)
          exact ⟨ad13, cp14, ad16, ad17, cp18, vs19, G20, hs⟩
        · intro L ac w hJ
          obtain ⟨ad13, cp14, ad16, ad17, cp18, vs19, G20, hs⟩ := hJ
          refine wpO_plain rfl (op_idxS hs (some 5) (j := 1) rfl rfl rfl rfl Try.underlying73 Try.sizeOf2 (by decide) (off := 1) rfl rfl fun ac hs => ?_)
          exact ⟨ad13, cp14, ad16, ad17, cp18, vs19, G20, hs⟩
        · intro L ac w hJ
          obtain ⟨ad13, cp14, ad16, ad17, cp18, vs19, G20, hs⟩ := hJ
          refine wpO_plain rfl (op_load hs (some 6) 1 (v := .int .i64 z5) rfl rfl rfl rfl Try.isAgg2 Try.sizeOf2 rfl rfl fun ac hs => ?_)
          exact ⟨ad13, cp14, ad16, ad17, cp18, vs19, G20, hs⟩
        · intro L ac w hJ
          obtain ⟨ad13, cp14, ad16, ad17, cp18, vs19, G20, hs⟩ := hJ
          refine wpO_plain rfl (op_bin hs (some 7) (v := .bool true) rfl rfl rfl rfl (fun _ => rfl) (fun w => dT hq12 (bin_geqI (x := z4) (y := z5) w)) rfl fun ac hs => ?_)
          exact ⟨ad13, cp14, ad16, ad17, cp18, vs19, G20, hs⟩
        · intro L ac w hJ
          obtain ⟨ad13, cp14, ad16, ad17, cp18, vs19, G20, hs⟩ := hJ
          refine wpO_plain rfl (op_move hs (some 8) rfl rfl rfl rfl fun ac hs => ?_)
          exact ⟨ad13, cp14, ad16, ad17, cp18, vs19, G20, hs⟩
        · intro L ac w hJ
          obtain ⟨ad13, cp14, ad16, ad17, cp18, vs19, G20, hs⟩ := hJ
          refine wpO_in hs rfl rfl rfl (op_move hs (some 9) rfl rfl rfl rfl fun ac hs => ?_)
          exact ⟨ad13, cp14, ad16, ad17, cp18, vs19, G20, hs⟩
        · intro L ac w hJ
          obtain ⟨ad13, cp14, ad16, ad17, cp18, vs19, G20, hs⟩ := hJ
          refine wpO_in hs rfl rfl rfl (op_idxS hs (some 10) (j := 0) rfl rfl rfl rfl Try.underlying73 Try.sizeOf2 (by decide) (off := 0) rfl rfl fun ac hs => ?_)
          exact ⟨ad13, cp14, ad16, ad17, cp18, vs19, G20, hs⟩
        · intro L ac w hJ
          obtain ⟨ad13, cp14, ad16, ad17, cp18, vs19, G20, hs⟩ := hJ
          refine wpO_in hs rfl rfl rfl (op_load hs (some 11) 1 (v := .int .i64 z4) rfl rfl rfl rfl Try.isAgg2 Try.sizeOf2 rfl rfl fun ac hs => ?_)
          exact ⟨ad13, cp14, ad16, ad17, cp18, vs19, G20, hs⟩
        · intro L ac w hJ
          obtain ⟨ad13, cp14, ad16, ad17, cp18, vs19, G20, hs⟩ := hJ
          refine wpO_in hs rfl rfl rfl (op_move hs (some 12) rfl rfl rfl rfl fun ac hs => ?_)
          exact ⟨ad13, cp14, ad16, ad17, cp18, vs19, G20, hs⟩
        · intro L ac w hJ
          obtain ⟨ad13, cp14, ad16, ad17, cp18, vs19, G20, hs⟩ := hJ
          refine wpO_in hs rfl rfl rfl (op_idxS hs (some 13) (j := 2) rfl rfl rfl rfl Try.underlying73 Try.sizeOf2 (by decide) (off := 2) rfl rfl fun ac hs => ?_)
          exact ⟨ad13, cp14, ad16, ad17, cp18, vs19, G20, hs⟩
        · intro L ac w hJ
          obtain ⟨ad13, cp14, ad16, ad17, cp18, vs19, G20, hs⟩ := hJ
          refine wpO_in hs rfl rfl rfl (op_load hs (some 14) 1 (v := .int .i64 z6) rfl rfl rfl rfl Try.isAgg2 Try.sizeOf2 rfl rfl fun ac hs => ?_)
          exact ⟨ad13, cp14, ad16, ad17, cp18, vs19, G20, hs⟩
        · intro L ac w hJ
          obtain ⟨ad13, cp14, ad16, ad17, cp18, vs19, G20, hs⟩ := hJ
          refine wpO_in hs rfl rfl rfl (op_bin hs (some 15) (v := .bool (decide (z4 < z6))) rfl rfl rfl rfl (fun _ => rfl) (bin_lssI (x := z4) (y := z6)) rfl fun ac hs => ?_)
          exact ⟨ad13, cp14, ad16, ad17, cp18, vs19, G20, hs⟩
        · intro L ac w hJ
          obtain ⟨ad13, cp14, ad16, ad17, cp18, vs19, G20, hs⟩ := hJ
          refine wpO_plain rfl (op_pickT hs (some 16) rfl rfl rfl rfl rfl fun ac hs => ?_)
          exact ⟨ad13, cp14, ad16, ad17, cp18, vs19, G20, hs⟩
        · intro L ac w hJ
          obtain ⟨ad13, cp14, ad16, ad17, cp18, vs19, G20, hs⟩ := hJ
          refine wpO_plain rfl (op_callV (F := 52) (ρ := Option Addr × Nat) hs (some 17) (some 3) (v := fun r => .slice r.1 ((flagL (decide (z4 < z6))).length) r.2) (E := fun r => [.own (.slice r.1 ((flagL (decide (z4 < z6))).length) r.2) 5 1 ((flagL (decide (z4 < z6))).length) (bcs (flagL (decide (z4 < z6))))]) (j := 1) rfl rfl rfl rfl (Try.call52 _) (fun hs => flag_o (decide (z4 < z6)) _ _) (fun _ => rfl) (fun _ => rfl) rfl rfl fun ⟨ad13, cp14⟩ ac w hs => ?_)
          exact ⟨ad13, cp14, ad16, ad17, cp18, vs19, G20, hs⟩
        · intro L ac w hJ
          obtain ⟨ad13, cp14, ad16, ad17, cp18, vs19, G20, hs⟩ := hJ
          refine wpO_plain rfl (op_bsO hs (some 18) (some 4) (qs := [(0, .slice ad13 ((flagL (decide (z4 < z6))).length) cp14)]) (cs := [.slice ad13 ((flagL (decide (z4 < z6))).length) cp14]) rfl rfl rfl rfl Try.underlying22 inf_slice_34 (by decide) (by decide) (fill_one _ _ rfl) rfl rfl rfl rfl fun ad16 ac w hs => ?_)
          exact ⟨ad13, cp14, ad16, ad17, cp18, vs19, G20, hs⟩
        · intro L ac w hJ
          obtain ⟨ad13, cp14, ad16, ad17, cp18, vs19, G20, hs⟩ := hJ
          refine wpO_plain rfl (op_callX (F := 38) (ρ := M1) hs (some 19) none [0] [0, 1, 2, 4, 3] (v := fun r => .tuple #[]) (S1 := [(true, .own (.slice ad8 ks2.length cp9) 34 1 ks2.length vs10), (true, .own (.slice aa js.length ca) 34 1 js.length us), (true, .bysO G (vs10 ++ us ++ xs) (ks2 ++ js ++ ts)), (true, .own (.slice ad16 1 1) 34 1 1 ([.slice ad13 ((flagL (decide (z4 < z6))).length) cp14])), (true, .own (.slice ad13 ((flagL (decide (z4 < z6))).length) cp14) 5 1 ((flagL (decide (z4 < z6))).length) (bcs (flagL (decide (z4 < z6)))))]) (bs1 := [(true, gm, 61, [.slice ad8 ks2.length cp9, .slice aa js.length ca, .int .i64 ((e3 : Nat) : Int)])]) (E := fun r => [(true, .own (.slice r.a ((ks2 ++ [flagL (decide (z4 < z6))]).length) r.c) 34 1 ((ks2 ++ [flagL (decide (z4 < z6))]).length) r.vs), (true, .own (.slice aa js.length ca) 34 1 js.length us), (true, .bysO r.G (r.vs ++ us ++ xs) ((ks2 ++ [flagL (decide (z4 < z6))]) ++ js ++ ts)), (true, .cel (.slice ad16 1 1) 1 ([.slice ad13 ((flagL (decide (z4 < z6))).length) cp14])), (true, .cel (.slice ad13 ((flagL (decide (z4 < z6))).length) cp14) ((flagL (decide (z4 < z6))).length) (bcs (flagL (decide (z4 < z6)))))]) (E1 := fun r => [(true, .own (.slice r.a ((ks2 ++ [flagL (decide (z4 < z6))]).length) r.c) 34 1 ((ks2 ++ [flagL (decide (z4 < z6))]).length) r.vs), (true, .own (.slice aa js.length ca) 34 1 js.length us), (true, .bysO r.G (r.vs ++ us ++ xs) ((ks2 ++ [flagL (decide (z4 < z6))]) ++ js ++ ts)), (true, .cel (.slice ad16 1 1) 1 ([.slice ad13 ((flagL (decide (z4 < z6))).length) cp14])), (true, .cel (.slice ad13 ((flagL (decide (z4 < z6))).length) cp14) ((flagL (decide (z4 < z6))).length) (bcs (flagL (decide (z4 < z6)))))]) (E2 := fun r => []) (bfA := fun r => [(true, gm, 61, [.slice r.a ((ks2 ++ [flagL (decide (z4 < z6))]).length) r.c, .slice aa js.length ca, .int .i64 ((e3 : Nat) : Int)])]) (bf := fun r => [(true, gm, 61, [.slice r.a ((ks2 ++ [flagL (decide (z4 < z6))]).length) r.c, .slice aa js.length ca, .int .i64 ((e3 : Nat) : Int)])]) (bf2 := fun r => []) rfl rfl rfl rfl rfl (Try.call38 _) rfl rfl (by decide) (by decide) (fun Z X hm => pushO_c gm ad8 cp9 vs10 aa ca us G xs ts ks2 js e3 ad16 1 ad13 cp14 (flagL (decide (z4 < z6))) (show (flagL (decide (z4 < z6))).length ≤ 8000 by omega) (oks2.mono (by decide)) ((flagL (decide (z4 < z6))).length) rfl _ _ _ hm) (fun _ => rfl) (fun _ => rfl) (fun _ => rfl) (fun _ => rfl) (fun _ => rfl) rfl fun ⟨ad17, cp18, vs19, G20⟩ ac w hs => ?_)
          exact ⟨ad13, cp14, ad16, ad17, cp18, vs19, G20, hs⟩
      intro ac w hJ
      obtain ⟨ad13, cp14, ad16, ad17, cp18, vs19, G20, hs⟩ := hJ
      replace hs : St 90 ⟨w0, [], [(true, .own (.slice ad17 ((ks2 ++ [flagL (decide (z4 < z6))]).length) cp18) 34 1 ((ks2 ++ [flagL (decide (z4 < z6))]).length) vs19), (true, .own (.slice aa js.length ca) 34 1 js.length us), (true, .bysO G20 (vs19 ++ us ++ xs) ((ks2 ++ [flagL (decide (z4 < z6))]) ++ js ++ ts)), (true, .cel (.slice ad13 ((flagL (decide (z4 < z6))).length) cp14) ((flagL (decide (z4 < z6))).length) (bcs (flagL (decide (z4 < z6))))), (true, .cel (.slice ad16 1 1) 1 ([.slice ad13 ((flagL (decide (z4 < z6))).length) cp14]))], Z, X⟩ [(19, true, .pointer (some ⟨gm, 0, none⟩)), (20, true, .slice (some ⟨g11, 0, none⟩) 3 3), (21, true, .pointer (some ⟨g11, 0, none⟩)), (22, true, .int .i64 z4), (23, true, .slice (some ⟨g11, 0, none⟩) 3 3), (24, true, .pointer (some ⟨g11, 1, none⟩)), (25, true, .int .i64 z5), (26, true, .bool true), (27, true, .bool true), (28, true, .slice (some ⟨g11, 0, none⟩) 3 3), (29, true, .pointer (some ⟨g11, 0, none⟩)), (30, true, .int .i64 z4), (31, true, .slice (some ⟨g11, 0, none⟩) 3 3), (32, true, .pointer (some ⟨g11, 2, none⟩)), (33, true, .int .i64 z6), (34, true, .bool (decide (z4 < z6))), (35, true, .bool (decide (z4 < z6))), (36, true, .slice ad13 ((flagL (decide (z4 < z6))).length) cp14), (37, true, .slice ad16 1 1), (38, true, .tuple #[]), (0, true, .pointer (some ⟨gm, 0, none⟩)), (1, true, .int .u8 ((op : Nat) : Int)), (4, true, .bool false), (5, true, .slice (some ⟨g11, 0, none⟩) 3 3)] [(true, gm, 61, [.slice ad17 ((ks2 ++ [flagL (decide (z4 < z6))]).length) cp18, .slice aa js.length ca, .int .i64 ((e3 : Nat) : Int)]), (true, g11, 2, [.int .i64 z4, .int .i64 z5, .int .i64 z6])] ac w := hs
      refine then_n ?_
      refine wp_seq ?_
      refine wp_region_lit ?_
      refine lstep (wpO_plain rfl (op_assign hs none rfl rfl rfl rfl fun ac hs => ?_))
      refine wpList_nil ?_
      refine then_n ?_
      refine wp_ret ?_
      refine then_r ?_
      have HS := hs
      have h0 := hp
      unfold recL at h0
      rw [if_pos hp1, hks2] at h0
      dsimp only at h0
      rw [wth_yes hq12] at h0
      obtain ⟨hq, hk, he⟩ := inj3 h0
      subst hq
      subst hk
      subst he
      have hs := HS
      exact bodyPost_ret (res1 rfl (rv_t hs rfl)) hs.defers ⟨⟨ad17, cp18, vs19, G20⟩, rfl, ((hs.selS [0, 1, 2] rfl (by decide)).selB [0] rfl (by decide)).mem⟩
    · skip
      replace hs : St 90 ⟨w0, [], [(true, .own (.slice ad8 ks2.length cp9) 34 1 ks2.length vs10), (true, .own (.slice aa js.length ca) 34 1 js.length us), (true, .bysO G (vs10 ++ us ++ xs) (ks2 ++ js ++ ts))], Z, X⟩ [(0, true, .pointer (some ⟨gm, 0, none⟩)), (1, true, .int .u8 ((op : Nat) : Int)), (4, true, .bool false), (5, true, .slice (some ⟨g11, 0, none⟩) 3 3)] [(true, gm, 61, [.slice ad8 ks2.length cp9, .slice aa js.length ca, .int .i64 ((e3 : Nat) : Int)]), (true, g11, 2, [.int .i64 z4, .int .i64 z5, .int .i64 z6])] ac _ := hs.re ⟨rfl, rfl, rfl, rfl, trivial⟩
      have lad21 : (flagL false).length ≤ 1 := flagL_len _
      refine region_inv [([], [19]), ([], [2, 3, 7, 8, 9, 10, 11, 12, 13, 14, 15, 16, 17, 18, 19]), ([1], [3, 7, 8, 9, 10, 11, 12, 13, 14, 15, 16, 17, 18, 19]), ([1, 2], [7, 8, 9, 10, 11, 12, 13, 14, 15, 16, 17, 18, 19]), ([], [5, 6, 7, 8, 9, 10, 11, 12, 13, 14, 15, 16, 17, 18, 19]), ([4], [6, 7, 8, 9, 10, 11, 12, 13, 14, 15, 16, 17, 18, 19]), ([4, 5], [7, 8, 9, 10, 11, 12, 13, 14, 15, 16, 17, 18, 19]), ([1, 2, 3, 4, 5, 6], [8, 9, 10, 11, 12, 13, 14, 15, 16, 17, 18, 19]), ([1, 2, 3, 4, 5, 6, 7], [9, 10, 11, 12, 13, 14, 15, 16, 17, 18, 19]), ([1, 2, 3, 4, 5, 6, 7, 8], [10, 11, 15, 16, 17, 18, 19]), ([1, 2, 3, 4, 5, 6, 7, 8, 9], [11, 15, 16, 17, 18, 19]), ([1, 2, 3, 4, 5, 6, 7, 8, 9, 10], [15, 16, 17, 18, 19]), ([1, 2, 3, 4, 5, 6, 7, 8], [13, 14, 15, 16, 17, 18, 19]), ([1, 2, 3, 4, 5, 6, 7, 8, 12], [14, 15, 16, 17, 18, 19]), ([1, 2, 3, 4, 5, 6, 7, 8, 12, 13], [15, 16, 17, 18, 19]), ([1, 2, 3, 4, 5, 6, 7, 8, 9, 10, 11, 12, 13, 14], [16, 17, 18, 19]), ([1, 2, 3, 4, 5, 6, 7, 8, 9, 10, 11, 12, 13, 14, 15], [17, 18, 19]), ([1, 2, 3, 4, 5, 6, 7, 8, 9, 10, 11, 12, 13, 14, 15, 16], [18, 19]), ([1, 2, 3, 4, 5, 6, 7, 8, 9, 10, 11, 12, 13, 14, 15, 16, 17], [19]), ([0, 1, 2, 3, 4, 5, 6, 7, 8, 9, 10, 11, 12, 13, 14, 15, 16, 17, 18], [])] (fun L ac w => ∃ (ad21 : Option Addr) (cp22 : Nat) (ad24 : Option Addr) (ad25 : Option Addr) (cp26 : Nat) (vs27 : List Value) (G28 : Nat → Prop), St 90 ⟨w0, [], [(true, cond (L 19) (.own (.slice ad25 ((ks2 ++ [flagL false]).length) cp26) 34 1 ((ks2 ++ [flagL false]).length) vs27) (.own (.slice ad8 ks2.length cp9) 34 1 ks2.length vs10)), (true, .own (.slice aa js.length ca) 34 1 js.length us), (true, cond (L 19) (.bysO G28 (vs27 ++ us ++ xs) ((ks2 ++ [flagL false]) ++ js ++ ts)) (.bysO G (vs10 ++ us ++ xs) (ks2 ++ js ++ ts))), (L 17, cond (L 19) (.cel (.slice ad21 ((flagL false).length) cp22) ((flagL false).length) (bcs (flagL false))) (.own (.slice ad21 ((flagL false).length) cp22) 5 1 ((flagL false).length) (bcs (flagL false)))), (L 18, cond (L 19) (.cel (.slice ad24 1 1) 1 ([.slice ad21 ((flagL false).length) cp22])) (cond (L 18) (.own (.slice ad24 1 1) 34 1 1 ([.slice ad21 ((flagL false).length) cp22])) (.bys [] [])))], Z, X⟩ [(19, L 0, .pointer (some ⟨gm, 0, none⟩)), (20, L 1, .slice (some ⟨g11, 0, none⟩) 3 3), (21, L 2, .pointer (some ⟨g11, 0, none⟩)), (22, L 3, .int .i64 z4), (23, L 4, .slice (some ⟨g11, 0, none⟩) 3 3), (24, L 5, .pointer (some ⟨g11, 1, none⟩)), (25, L 6, .int .i64 z5), (26, L 7, .bool false), (27, L 8, .bool false), (28, L 9, undef), (29, L 10, undef), (30, L 11, undef), (31, L 12, undef), (32, L 13, undef), (33, L 14, undef), (34, L 15, undef), (35, L 16, .bool false), (36, L 17, .slice ad21 ((flagL false).length) cp22), (37, L 18, .slice ad24 1 1), (38, L 19, .tuple #[]), (0, true, .pointer (some ⟨gm, 0, none⟩)), (1, true, .int .u8 ((op : Nat) : Int)), (4, true, .bool false), (5, true, .slice (some ⟨g11, 0, none⟩) 3 3)] [(true, gm, 61, (cond (L 19) [.slice ad25 ((ks2 ++ [flagL false]).length) cp26, .slice aa js.length ca, .int .i64 ((e3 : Nat) : Int)] [.slice ad8 ks2.length cp9, .slice aa js.length ca, .int .i64 ((e3 : Nat) : Int)])), (true, g11, 2, [.int .i64 z4, .int .i64 z5, .int .i64 z6])] ac w) (by kernel_rfl) (by kernel_rfl) ?_ ?_ ?_
      · exact ⟨none, 0, none, none, 0, [], noX, hs.drew.skip.skip.skip.skip.skip.skip.skip.skip.skip.skip.skip.skip.skip.skip.skip.skip.skip.skip.skip.skip.padS.padS⟩
      · refine ⟨?_, ?_, ?_, ?_, ?_, ?_, ?_, ?_, ?_, ?_, ?_, ?_, ?_, ?_, ?_, ?_, ?_, ?_, ?_, ?_, trivial⟩
        · intro L ac w hJ
          obtain ⟨ad21, cp22, ad24, ad25, cp26, vs27, G28, hs⟩ := hJ
          refine wpO_plain rfl (op_move hs (some 0) rfl rfl rfl rfl fun ac hs => ?_)
          exact ⟨ad21, cp22, ad24, ad25, cp26, vs27, G28, hs⟩
        · intro L ac w hJ
          obtain ⟨ad21, cp22, ad24, ad25, cp26, vs27, G28, hs⟩ := hJ
          refine wpO_plain rfl (op_move hs (some 1) rfl rfl rfl rfl fun ac hs => ?_)
          exact ⟨ad21, cp22, ad24, ad25, cp26, vs27, G28, hs⟩
        · intro L ac w hJ
          obtain ⟨ad21, cp22, ad24, ad25, cp26, vs27, G28, hs⟩ := hJ
          refine wpO_plain rfl (op_idxS hs (some 2) (j := 0) rfl rfl rfl rfl Try.underlying73 Try.sizeOf2 (by decide) (off := 0) rfl rfl fun ac hs => ?_)
          exact ⟨ad21, cp22, ad24, ad25, cp26, vs27, G28, hs⟩
        · intro L ac w hJ
          obtain ⟨ad21, cp22, ad24, ad25, cp26, vs27, G28, hs⟩ := hJ
          refine wpO_plain rfl (op_load hs (some 3) 1 (v := .int .i64 z4) rfl rfl rfl rfl Try.isAgg2 Try.sizeOf2 rfl rfl fun ac hs => ?_)
          exact ⟨ad21, cp22, ad24, ad25, cp26, vs27, G28, hs⟩
        · intro L ac w hJ
          obtain ⟨ad21, cp22, ad24, ad25, cp26, vs27, G28, hs⟩ := hJ
          refine wpO_plain rfl (op_move hs (some 4) rfl rfl rfl rfl fun ac hs => ?_)
          exact ⟨ad21, cp22, ad24, ad25, cp26, vs27, G28, hs⟩
        · intro L ac w hJ
          obtain ⟨ad21, cp22, ad24, ad25, cp26, vs27, G28, hs⟩ := hJ
          refine wpO_plain rfl (op_idxS hs (some 5) (j := 1) rfl rfl rfl rfl Try.underlying73 Try.sizeOf2 (by decide) (off := 1) rfl rfl fun ac hs => ?_)
          exact ⟨ad21, cp22, ad24, ad25, cp26, vs27, G28, hs⟩
        · intro L ac w hJ
          obtain ⟨ad21, cp22, ad24, ad25, cp26, vs27, G28, hs⟩ := hJ
          refine wpO_plain rfl (op_load hs (some 6) 1 (v := .int .i64 z5) rfl rfl rfl rfl Try.isAgg2 Try.sizeOf2 rfl rfl fun ac hs => ?_)
          exact ⟨ad21, cp22, ad24, ad25, cp26, vs27, G28, hs⟩
        · intro L ac w hJ
          obtain ⟨ad21, cp22, ad24, ad25, cp26, vs27, G28, hs⟩ := hJ
          refine wpO_plain rfl (op_bin hs (some 7) (v := .bool false) rfl rfl rfl rfl (fun _ => rfl) (fun w => dF hq12 (bin_geqI (x := z4) (y := z5) w)) rfl fun ac hs => ?_)
          exact ⟨ad21, cp22, ad24, ad25, cp26, vs27, G28, hs⟩
        · intro L ac w hJ
          obtain ⟨ad21, cp22, ad24, ad25, cp26, vs27, G28, hs⟩ := hJ
          refine wpO_plain rfl (op_move hs (some 8) rfl rfl rfl rfl fun ac hs => ?_)
          exact ⟨ad21, cp22, ad24, ad25, cp26, vs27, G28, hs⟩
        · intro L ac w hJ
          obtain ⟨ad21, cp22, ad24, ad25, cp26, vs27, G28, hs⟩ := hJ
          refine wpO_out hs (some 9) rfl rfl (.inl rfl) rfl rfl fun ac hs => ?_
          exact ⟨ad21, cp22, ad24, ad25, cp26, vs27, G28, hs⟩
        · intro L ac w hJ
          obtain ⟨ad21, cp22, ad24, ad25, cp26, vs27, G28, hs⟩ := hJ
          refine wpO_out hs (some 10) rfl rfl (.inl rfl) rfl rfl fun ac hs => ?_
          exact ⟨ad21, cp22, ad24, ad25, cp26, vs27, G28, hs⟩
        · intro L ac w hJ
          obtain ⟨ad21, cp22, ad24, ad25, cp26, vs27, G28, hs⟩ := hJ
          refine wpO_out hs (some 11) rfl rfl (.inl rfl) rfl rfl fun ac hs => ?_
          exact ⟨ad21, cp22, ad24, ad25, cp26, vs27, G28, hs⟩
        · intro L ac w hJ
          obtain ⟨ad21, cp22, ad24, ad25, cp26, vs27, G28, hs⟩ := hJ
          refine wpO_out hs (some 12) rfl rfl (.inl rfl) rfl rfl fun ac hs => ?_
          exact ⟨ad21, cp22, ad24, ad25, cp26, vs27, G28, hs⟩
        · intro L ac w hJ
          obtain ⟨ad21, cp22, ad24, ad25, cp26, vs27, G28, hs⟩ := hJ
          refine wpO_out hs (some 13) rfl rfl (.inl rfl) rfl rfl fun ac hs => ?_
          exact ⟨ad21, cp22, ad24, ad25, cp26, vs27, G28, hs⟩
        · intro L ac w hJ
          obtain ⟨ad21, cp22, ad24, ad25, cp26, vs27, G28, hs⟩ := hJ
          refine wpO_out hs (some 14) rfl rfl (.inl rfl) rfl rfl fun ac hs => ?_
          exact ⟨ad21, cp22, ad24, ad25, cp26, vs27, G28, hs⟩
        · intro L ac w hJ
          obtain ⟨ad21, cp22, ad24, ad25, cp26, vs27, G28, hs⟩ := hJ
          refine wpO_out hs (some 15) rfl rfl (.inl rfl) rfl rfl fun ac hs => ?_
          exact ⟨ad21, cp22, ad24, ad25, cp26, vs27, G28, hs⟩
        · intro L ac w hJ
          obtain ⟨ad21, cp22, ad24, ad25, cp26, vs27, G28, hs⟩ := hJ
          refine wpO_plain rfl (op_pickF hs (some 16) rfl rfl rfl rfl rfl fun ac hs => ?_)
          exact ⟨ad21, cp22, ad24, ad25, cp26, vs27, G28, hs⟩
        · intro L ac w hJ
          obtain ⟨ad21, cp22, ad24, ad25, cp26, vs27, G28, hs⟩ := hJ
          refine wpO_plain rfl (op_callV (F := 52) (ρ := Option Addr × Nat) hs (some 17) (some 3) (v := fun r => .slice r.1 ((flagL false).length) r.2) (E := fun r => [.own (.slice r.1 ((flagL false).length) r.2) 5 1 ((flagL false).length) (bcs (flagL false))]) (j := 1) rfl rfl rfl rfl (Try.call52 _) (fun hs => flag_o false _ _) (fun _ => rfl) (fun _ => rfl) rfl rfl fun ⟨ad21, cp22⟩ ac w hs => ?_)
          exact ⟨ad21, cp22, ad24, ad25, cp26, vs27, G28, hs⟩
        · intro L ac w hJ
          obtain ⟨ad21, cp22, ad24, ad25, cp26, vs27, G28, hs⟩ := hJ
          refine wpO_plain rfl (op_bsO hs (some 18) (some 4) (qs := [(0, .slice ad21 ((flagL false).length) cp22)]) (cs := [.slice ad21 ((flagL false).length) cp22]) rfl rfl rfl rfl Try.underlying22 inf_slice_34 (by decide) (by decide) (fill_one _ _ rfl) rfl rfl rfl rfl fun ad24 ac w hs => ?_)
          exact ⟨ad21, cp22, ad24, ad25, cp26, vs27, G28, hs⟩
        · intro L ac w hJ
          obtain ⟨ad21, cp22, ad24, ad25, cp26, vs27, G28, hs⟩ := hJ
          refine wpO_plain rfl (op_callX (F := 38) (ρ := M1) hs (some 19) none [0] [0, 1, 2, 4, 3] (v := fun r => .tuple #[]) (S1 := [(true, .own (.slice ad8 ks2.length cp9) 34 1 ks2.length vs10), (true, .own (.slice aa js.length ca) 34 1 js.length us), (true, .bysO G (vs10 ++ us ++ xs) (ks2 ++ js ++ ts)), (true, .own (.slice ad24 1 1) 34 1 1 ([.slice ad21 ((flagL false).length) cp22])), (true, .own (.slice ad21 ((flagL false).length) cp22) 5 1 ((flagL false).length) (bcs (flagL false)))]) (bs1 := [(true, gm, 61, [.slice ad8 ks2.length cp9, .slice aa js.length ca, .int .i64 ((e3 : Nat) : Int)])]) (E := fun r => [(true, .own (.slice r.a ((ks2 ++ [flagL false]).length) r.c) 34 1 ((ks2 ++ [flagL false]).length) r.vs), (true, .own (.slice aa js.length ca) 34 1 js.length us), (true, .bysO r.G (r.vs ++ us ++ xs) ((ks2 ++ [flagL false]) ++ js ++ ts)), (true, .cel (.slice ad24 1 1) 1 ([.slice ad21 ((flagL false).length) cp22])), (true, .cel (.slice ad21 ((flagL false).length) cp22) ((flagL false).length) (bcs (flagL false)))]) (E1 := fun r => [(true, .own (.slice r.a ((ks2 ++ [flagL false]).length) r.c) 34 1 ((ks2 ++ [flagL false]).length) r.vs), (true, .own (.slice aa js.length ca) 34 1 js.length us), (true, .bysO r.G (r.vs ++ us ++ xs) ((ks2 ++ [flagL false]) ++ js ++ ts)), (true, .cel (.slice ad24 1 1) 1 ([.slice ad21 ((flagL false).length) cp22])), (true, .cel (.slice ad21 ((flagL false).length) cp22) ((flagL false).length) (bcs (flagL false)))]) (E2 := fun r => []) (bfA := fun r => [(true, gm, 61, [.slice r.a ((ks2 ++ [flagL false]).length) r.c, .slice aa js.length ca, .int .i64 ((e3 : Nat) : Int)])]) (bf := fun r => [(true, gm, 61, [.slice r.a ((ks2 ++ [flagL false]).length) r.c, .slice aa js.length ca, .int .i64 ((e3 : Nat) : Int)])]) (bf2 := fun r => []) rfl rfl rfl rfl rfl (Try.call38 _) rfl rfl (by decide) (by decide) (fun Z X hm => pushO_c gm ad8 cp9 vs10 aa ca us G xs ts ks2 js e3 ad24 1 ad21 cp22 (flagL false) (show (flagL false).length ≤ 8000 by omega) (oks2.mono (by decide)) ((flagL false).length) rfl _ _ _ hm) (fun _ => rfl) (fun _ => rfl) (fun _ => rfl) (fun _ => rfl) (fun _ => rfl) rfl fun ⟨ad25, cp26, vs27, G28⟩ ac w hs => ?_)
          exact ⟨ad21, cp22, ad24, ad25, cp26, vs27, G28, hs⟩
      intro ac w hJ
      obtain ⟨ad21, cp22, ad24, ad25, cp26, vs27, G28, hs⟩ := hJ
      replace hs : St 90 ⟨w0, [], [(true, .own (.slice ad25 ((ks2 ++ [flagL false]).length) cp26) 34 1 ((ks2 ++ [flagL false]).length) vs27), (true, .own (.slice aa js.length ca) 34 1 js.length us), (true, .bysO G28 (vs27 ++ us ++ xs) ((ks2 ++ [flagL false]) ++ js ++ ts)), (true, .cel (.slice ad21 ((flagL false).length) cp22) ((flagL false).length) (bcs (flagL false))), (true, .cel (.slice ad24 1 1) 1 ([.slice ad21 ((flagL false).length) cp22]))], Z, X⟩ [(19, true, .pointer (some ⟨gm, 0, none⟩)), (20, true, .slice (some ⟨g11, 0, none⟩) 3 3), (21, true, .pointer (some ⟨g11, 0, none⟩)), (22, true, .int .i64 z4), (23, true, .slice (some ⟨g11, 0, none⟩) 3 3), (24, true, .pointer (some ⟨g11, 1, none⟩)), (25, true, .int .i64 z5), (26, true, .bool false), (27, true, .bool false), (28, true, undef), (29, true, undef), (30, true, undef), (31, true, undef), (32, true, undef), (33, true, undef), (34, true, undef), (35, true, .bool false), (36, true, .slice ad21 ((flagL false).length) cp22), (37, true, .slice ad24 1 1), (38, true, .tuple #[]), (0, true, .pointer (some ⟨gm, 0, none⟩)), (1, true, .int .u8 ((op : Nat) : Int)), (4, true, .bool false), (5, true, .slice (some ⟨g11, 0, none⟩) 3 3)] [(true, gm, 61, [.slice ad25 ((ks2 ++ [flagL false]).length) cp26, .slice aa js.length ca, .int .i64 ((e3 : Nat) : Int)]), (true, g11, 2, [.int .i64 z4, .int .i64 z5, .int .i64 z6])] ac w := hs
      refine then_n ?_
      refine wp_seq ?_
      refine wp_region_lit ?_
      refine lstep (wpO_plain rfl (op_assign hs none rfl rfl rfl rfl fun ac hs => ?_))
      refine wpList_nil ?_
      refine then_n ?_
      refine wp_ret ?_
      refine then_r ?_
      have HS := hs
      have h0 := hp
      unfold recL at h0
      rw [if_pos hp1, hks2] at h0
      dsimp only at h0
      rw [wth_no hq12] at h0
      obtain ⟨hq, hk, he⟩ := inj3 h0
      subst hq
      subst hk
      subst he
      have hs := HS
      exact bodyPost_ret (res1 rfl (rv_t hs rfl)) hs.defers ⟨⟨ad25, cp26, vs27, G28⟩, rfl, ((hs.selS [0, 1, 2] rfl (by decide)).selB [0] rfl (by decide)).mem⟩
  · skip
    have hp29 := of_decide_eq_false hc
    refine wp_skip ?_
    refine then_n ?_
    refine wp_seq ?_
    refine wp_seq ?_
    refine wp_region_lit ?_
    refine lstep (wpO_plain rfl (op_move hs none rfl rfl rfl rfl fun ac hs => ?_))
    obtain ⟨z30, q31, hz30⟩ : ∃ z0 z1, unL op 0 = (z0, z1) := ⟨_, _, rfl⟩
    have bz30 := unL_bd (show -2147483648 < 0 ∧ 0 < 2147483648 by omega) hz30
    refine lstep (wpO_plain rfl (op_call (F := 58) hs none (v := .tuple #[.int .i64 z30, .bool q31]) rfl rfl rfl rfl (Try.call58 _) (unary_c op 0 z30 q31 (show -2147483648 < 0 ∧ 0 < 2147483648 by omega) hz30) rfl fun ac w hs => ?_))
    refine lstep (wpO_plain rfl (op_move hs none rfl rfl rfl rfl fun ac hs => ?_))
    refine lstep (wpO_plain rfl (op_extract hs none rfl rfl rfl rfl rfl fun ac hs => ?_))
    refine lstep (wpO_plain rfl (op_extract hs none rfl rfl rfl rfl rfl fun ac hs => ?_))
    refine lstep (wpO_plain rfl (op_assign hs none rfl rfl rfl rfl fun ac hs => ?_))
    refine lstep (wpO_plain rfl (op_assign hs none rfl rfl rfl rfl fun ac hs => ?_))
    refine wpList_nil ?_
    refine then_n ?_
    refine wp_seq ?_
    replace hs : St 90 ⟨w0, [], [(true, .own (.slice am ks.length cm) 34 1 ks.length vs), (true, .own (.slice aa js.length ca) 34 1 js.length us), (true, .bysO G (vs ++ us ++ xs) (ks ++ js ++ ts))], Z, X⟩ [(0, true, .pointer (some ⟨gm, 0, none⟩)), (1, true, .int .u8 ((op : Nat) : Int)), (4, true, .bool false), (7, true, .bool q31)] [(true, gm, 61, [.slice am ks.length cm, .slice aa js.length ca, .int .i64 ((er : Nat) : Int)])] ac _ := hs.re ⟨rfl, rfl, rfl, rfl, trivial⟩
    refine wp_region_lit ?_
    refine lstep (wpO_plain rfl (op_move hs none rfl rfl rfl rfl fun ac hs => ?_))
    refine wpList_nil ?_
    refine then_n ?_
    refine wp_cond_split (hs.ev rfl) (fun hc => ?_) (fun hc => ?_)
    · skip
      have hcu := hc
      refine wp_seq ?_
      refine wp_region_lit ?_
      refine lstep (wpO_plain rfl (op_move hs none rfl rfl rfl rfl fun ac hs => ?_))
      refine lstep (wpO_plain rfl (op_move hs none rfl rfl rfl rfl fun ac hs => ?_))
      obtain ⟨zs35, ks32, e33, hks32⟩ : ∃ z0 z1 z2, opsL 1 ks er = (z0, z1, z2) := ⟨_, _, _, rfl⟩
      obtain ⟨oks32, lzs35, bzs35⟩ := ops_ok ok hks32
      obtain ⟨z34, rfl⟩ := len1 lzs35
      have bz34 := bzs35 z34 (by simp)
      refine lstep (wpO_plain rfl (op_callX (F := 57) (ρ := M1o) hs none none [0] [0, 1, 2] (v := fun r => .slice (some ⟨r.o, 0, none⟩) 1 1) (S1 := [(true, .own (.slice am ks.length cm) 34 1 ks.length vs), (true, .own (.slice aa js.length ca) 34 1 js.length us), (true, .bysO G (vs ++ us ++ xs) (ks ++ js ++ ts))]) (bs1 := [(true, gm, 61, [.slice am ks.length cm, .slice aa js.length ca, .int .i64 ((er : Nat) : Int)])]) (E := fun r => [(true, .own (.slice r.a ks32.length r.c) 34 1 ks32.length r.vs), (true, .own (.slice aa js.length ca) 34 1 js.length us), (true, .bysO G (r.vs ++ us ++ xs) (ks32 ++ js ++ ts))]) (E1 := fun r => [(true, .own (.slice r.a ks32.length r.c) 34 1 ks32.length r.vs), (true, .own (.slice aa js.length ca) 34 1 js.length us), (true, .bysO G (r.vs ++ us ++ xs) (ks32 ++ js ++ ts))]) (E2 := fun r => []) (bfA := fun r => [(true, gm, 61, [.slice r.a ks32.length r.c, .slice aa js.length ca, .int .i64 ((e33 : Nat) : Int)]), (true, r.o, 2, [.int .i64 z34])]) (bf := fun r => [(true, gm, 61, [.slice r.a ks32.length r.c, .slice aa js.length ca, .int .i64 ((e33 : Nat) : Int)])]) (bf2 := fun r => [(true, r.o, 2, [.int .i64 z34])]) rfl rfl rfl rfl rfl (Try.call57 _) rfl rfl (by decide) (by decide) (fun Z X hm => ops1_c gm am cm vs aa ca us G xs ts ks js er z34 ks32 e33 (ok.mono (by decide)) hks32 _ _ _ hm) (fun _ => rfl) (fun _ => rfl) (fun _ => rfl) (fun _ => rfl) (fun _ => rfl) rfl fun ⟨ad36, cp37, vs38, g39⟩ ac w hs => ?_))
      refine lstep (wpO_plain rfl (op_idxS hs none (j := 0) rfl rfl rfl rfl Try.underlying73 Try.sizeOf2 (by decide) (off := 0) rfl rfl fun ac hs => ?_))
      refine lstep (wpO_plain rfl (op_load hs none 1 (v := .int .i64 z34) rfl rfl rfl rfl Try.isAgg2 Try.sizeOf2 rfl rfl fun ac hs => ?_))
      obtain ⟨z40, q41, hz40⟩ : ∃ z0 z1, unL op z34 = (z0, z1) := ⟨_, _, rfl⟩
      have bz40 := unL_bd (show -2147483648 < z34 ∧ z34 < 2147483648 by omega) hz40
      refine lstep (wpO_plain rfl (op_call (F := 58) hs none (v := .tuple #[.int .i64 z40, .bool q41]) rfl rfl rfl rfl (Try.call58 _) (unary_c op z34 z40 q41 (show -2147483648 < z34 ∧ z34 < 2147483648 by omega) hz40) rfl fun ac w hs => ?_))
      refine lstep (wpO_plain rfl (op_move hs none rfl rfl rfl rfl fun ac hs => ?_))
      refine lstep (wpO_plain rfl (op_extract hs none rfl rfl rfl rfl rfl fun ac hs => ?_))
      refine lstep (wpO_plain rfl (op_extract hs none rfl rfl rfl rfl rfl fun ac hs => ?_))
      refine lstep (wpO_plain rfl (op_assign hs none rfl rfl rfl rfl fun ac hs => ?_))
      refine lstep (wpO_plain rfl (op_assign hs none rfl rfl rfl rfl fun ac hs => ?_))
      refine wpList_nil ?_
      refine then_n ?_
      refine wp_seq ?_
      replace hs : St 90 ⟨w0, [], [(true, .own (.slice ad36 ks32.length cp37) 34 1 ks32.length vs38), (true, .own (.slice aa js.length ca) 34 1 js.length us), (true, .bysO G (vs38 ++ us ++ xs) (ks32 ++ js ++ ts))], Z, X⟩ [(0, true, .pointer (some ⟨gm, 0, none⟩)), (1, true, .int .u8 ((op : Nat) : Int)), (4, true, .bool false), (8, true, .int .i64 z40)] [(true, gm, 61, [.slice ad36 ks32.length cp37, .slice aa js.length ca, .int .i64 ((e33 : Nat) : Int)]), (true, g39, 2, [.int .i64 z34])] ac _ := hs.re ⟨rfl, rfl, rfl, rfl, trivial⟩
      refine wp_region_lit ?_
      refine lstep (wpO_plain rfl (op_move hs none rfl rfl rfl rfl fun ac hs => ?_))
      refine lstep (wpO_plain rfl (op_move hs none rfl rfl rfl rfl fun ac hs => ?_))
      have lad42 : (enc z40).length ≤ 9 := enc_len (show -9223372036854775808 ≤ z40 by omega) (show z40 < 9223372036854775808 by omega)
      refine lstep (wpO_plain rfl (op_callV (F := 50) (ρ := Option Addr × Nat) hs none none (v := fun r => .slice r.1 ((enc z40).length) r.2) (E := fun r => [.own (.slice r.1 ((enc z40).length) r.2) 5 1 ((enc z40).length) (bcs (enc z40))]) (j := 1) rfl rfl rfl rfl (Try.call50 _) (fun hs => enc_o z40 (show -9223372036854775808 ≤ z40 by omega) (show z40 < 9223372036854775808 by omega) _ _) (fun _ => rfl) (fun _ => rfl) rfl rfl fun ⟨ad42, cp43⟩ ac w hs => ?_))
      refine lstep (wpO_plain rfl (op_bsO hs none none (qs := [(0, .slice ad42 ((enc z40).length) cp43)]) (cs := [.slice ad42 ((enc z40).length) cp43]) rfl rfl rfl rfl Try.underlying22 inf_slice_34 (by decide) (by decide) (fill_one _ _ rfl) rfl rfl rfl rfl fun ad45 ac w hs => ?_))
      replace hs := hs.freeze 4 rfl
      replace hs := hs.freeze 3 rfl
      refine lstep (wpO_plain rfl (op_callX (F := 38) (ρ := M1) hs none none [0] [0, 1, 2, 4, 3] (v := fun r => .tuple #[]) (S1 := [(true, .own (.slice ad36 ks32.length cp37) 34 1 ks32.length vs38), (true, .own (.slice aa js.length ca) 34 1 js.length us), (true, .bysO G (vs38 ++ us ++ xs) (ks32 ++ js ++ ts)), (true, .cel (.slice ad45 1 1) 1 ([.slice ad42 ((enc z40).length) cp43])), (true, .cel (.slice ad42 ((enc z40).length) cp43) ((enc z40).length) (bcs (enc z40)))]) (bs1 := [(true, gm, 61, [.slice ad36 ks32.length cp37, .slice aa js.length ca, .int .i64 ((e33 : Nat) : Int)])]) (E := fun r => [(true, .own (.slice r.a ((ks32 ++ [enc z40]).length) r.c) 34 1 ((ks32 ++ [enc z40]).length) r.vs), (true, .own (.slice aa js.length ca) 34 1 js.length us), (true, .bysO r.G (r.vs ++ us ++ xs) ((ks32 ++ [enc z40]) ++ js ++ ts)), (true, .cel (.slice ad45 1 1) 1 ([.slice ad42 ((enc z40).length) cp43])), (true, .cel (.slice ad42 ((enc z40).length) cp43) ((enc z40).length) (bcs (enc z40)))]) (E1 := fun r => [(true, .own (.slice r.a ((ks32 ++ [enc z40]).length) r.c) 34 1 ((ks32 ++ [enc z40]).length) r.vs), (true, .own (.slice aa js.length ca) 34 1 js.length us), (true, .bysO r.G (r.vs ++ us ++ xs) ((ks32 ++ [enc z40]) ++ js ++ ts)), (true, .cel (.slice ad45 1 1) 1 ([.slice ad42 ((enc z40).length) cp43])), (true, .cel (.slice ad42 ((enc z40).length) cp43) ((enc z40).length) (bcs (enc z40)))]) (E2 := fun r => []) (bfA := fun r => [(true, gm, 61, [.slice r.a ((ks32 ++ [enc z40]).length) r.c, .slice aa js.length ca, .int .i64 ((e33 : Nat) : Int)])]) (bf := fun r => [(true, gm, 61, [.slice r.a ((ks32 ++ [enc z40]).length) r.c, .slice aa js.length ca, .int .i64 ((e33 : Nat) : Int)])]) (bf2 := fun r => []) rfl rfl rfl rfl rfl (Try.call38 _) rfl rfl (by decide) (by decide) (fun Z X hm => pushC_c gm ad36 cp37 vs38 aa ca us G xs ts ks32 js e33 ad45 1 ad42 cp43 (enc z40) (show (enc z40).length ≤ 8000 by omega) (oks32.mono (by decide)) ((enc z40).length) rfl _ _ _ hm) (fun _ => rfl) (fun _ => rfl) (fun _ => rfl) (fun _ => rfl) (fun _ => rfl) rfl fun ⟨ad46, cp47, vs48, G49⟩ ac w hs => ?_))
      refine wpList_nil ?_
      refine then_n ?_
      refine wp_seq ?_
      refine wp_region_lit ?_
      refine lstep (wpO_plain rfl (op_assign hs none rfl rfl rfl rfl fun ac hs => ?_))
      refine wpList_nil ?_
      refine then_n ?_
      refine wp_ret ?_
      refine then_r ?_
      have HS := hs
      have h0 := hp
      unfold recL at h0
      rw [if_neg hp29] at h0
      simp only [hz30, if_pos hcu] at h0
      rw [hks32] at h0
      simp only [List.getD_cons_zero, hz40] at h0
      obtain ⟨hq, hk, he⟩ := inj3 h0
      subst hq
      subst hk
      subst he
      have hs := HS
      exact bodyPost_ret (res1 rfl (rv_t hs rfl)) hs.defers ⟨⟨ad46, cp47, vs48, G49⟩, rfl, ((hs.selS [0, 1, 2] rfl (by decide)).selB [0] rfl (by decide)).mem⟩
    · skip
      have hcu : ¬ q31 = true := by simpa using hc
      refine wp_skip ?_
      refine then_n ?_
      refine wp_seq ?_
      refine wp_seq ?_
      refine wp_region_lit ?_
      refine lstep (wpO_plain rfl (op_move hs none rfl rfl rfl rfl fun ac hs => ?_))
      obtain ⟨z50, q51, hz50⟩ : ∃ z0 z1, binL op 0 0 = (z0, z1) := ⟨_, _, rfl⟩
      have bz50 := binL_bd (show -2147483648 < 0 ∧ 0 < 2147483648 by omega) (show -2147483648 < 0 ∧ 0 < 2147483648 by omega) hz50
      refine lstep (wpO_plain rfl (op_call (F := 59) hs none (v := .tuple #[.int .i64 z50, .bool q51]) rfl rfl rfl rfl (Try.call59 _) (binary_c op 0 0 z50 q51 (show -2147483648 < 0 ∧ 0 < 2147483648 by omega) (show -2147483648 < 0 ∧ 0 < 2147483648 by omega) hz50) rfl fun ac w hs => ?_))
      refine lstep (wpO_plain rfl (op_move hs none rfl rfl rfl rfl fun ac hs => ?_))
      refine lstep (wpO_plain rfl (op_extract hs none rfl rfl rfl rfl rfl fun ac hs => ?_))
      refine lstep (wpO_plain rfl (op_extract hs none rfl rfl rfl rfl rfl fun ac hs => ?_))
      refine lstep (wpO_plain rfl (op_assign hs none rfl rfl rfl rfl fun ac hs => ?_))
      refine lstep (wpO_plain rfl (op_assign hs none rfl rfl rfl rfl fun ac hs => ?_))
      refine wpList_nil ?_
      refine then_n ?_
      refine wp_seq ?_
      replace hs : St 90 ⟨w0, [], [(true, .own (.slice am ks.length cm) 34 1 ks.length vs), (true, .own (.slice aa js.length ca) 34 1 js.length us), (true, .bysO G (vs ++ us ++ xs) (ks ++ js ++ ts))], Z, X⟩ [(0, true, .pointer (some ⟨gm, 0, none⟩)), (1, true, .int .u8 ((op : Nat) : Int)), (4, true, .bool false), (11, true, .bool q51)] [(true, gm, 61, [.slice am ks.length cm, .slice aa js.length ca, .int .i64 ((er : Nat) : Int)])] ac _ := hs.re ⟨rfl, rfl, rfl, rfl, trivial⟩
      refine wp_region_lit ?_
      refine lstep (wpO_plain rfl (op_move hs none rfl rfl rfl rfl fun ac hs => ?_))
      refine lstep (wpO_plain rfl (op_un hs none (v := .bool (!q51)) rfl rfl rfl (fun _ => rfl) rfl fun ac hs => ?_))
      refine wpList_nil ?_
      refine then_n ?_
      refine wp_cond_split (hs.ev rfl) (fun hc => ?_) (fun hc => ?_)
      · skip
        have hcb : q51 = false := by simpa using hc
        refine wp_seq ?_
        refine wp_region_lit ?_
        refine lstep (wpO_plain rfl (op_assign hs none rfl rfl rfl rfl fun ac hs => ?_))
        refine wpList_nil ?_
        refine then_n ?_
        refine wp_ret ?_
        refine then_r ?_
        have HS := hs
        have h0 := hp
        unfold recL at h0
        rw [if_neg hp29] at h0
        simp only [hz30, if_neg hcu] at h0
        simp only [hz50, if_pos hcb] at h0
        obtain ⟨hq, hk, he⟩ := inj3 h0
        subst hq
        subst hk
        subst he
        have hs := HS
        exact bodyPost_ret (res1 rfl (rv_t hs rfl)) hs.defers ⟨⟨am, cm, vs, G⟩, rfl, ((hs.selS [0, 1, 2] rfl (by decide)).selB [0] rfl (by decide)).mem⟩
      · skip
        have hcb : ¬ q51 = false := by simpa using hc
        refine wp_skip ?_
        refine then_n ?_
        refine wp_seq ?_
        refine wp_region_lit ?_
        refine lstep (wpO_plain rfl (op_move hs none rfl rfl rfl rfl fun ac hs => ?_))
        obtain ⟨zs56, ks52, e53, hks52⟩ : ∃ z0 z1 z2, opsL 2 ks er = (z0, z1, z2) := ⟨_, _, _, rfl⟩
        obtain ⟨oks52, lzs56, bzs56⟩ := ops_ok ok hks52
        obtain ⟨z54, z55, rfl⟩ := len2 lzs56
        have bz54 := bzs56 z54 (by simp)
        have bz55 := bzs56 z55 (by simp)
        refine lstep (wpO_plain rfl (op_callX (F := 57) (ρ := M1o) hs none none [0] [0, 1, 2] (v := fun r => .slice (some ⟨r.o, 0, none⟩) 2 2) (S1 := [(true, .own (.slice am ks.length cm) 34 1 ks.length vs), (true, .own (.slice aa js.length ca) 34 1 js.length us), (true, .bysO G (vs ++ us ++ xs) (ks ++ js ++ ts))]) (bs1 := [(true, gm, 61, [.slice am ks.length cm, .slice aa js.length ca, .int .i64 ((er : Nat) : Int)])]) (E := fun r => [(true, .own (.slice r.a ks52.length r.c) 34 1 ks52.length r.vs), (true, .own (.slice aa js.length ca) 34 1 js.length us), (true, .bysO G (r.vs ++ us ++ xs) (ks52 ++ js ++ ts))]) (E1 := fun r => [(true, .own (.slice r.a ks52.length r.c) 34 1 ks52.length r.vs), (true, .own (.slice aa js.length ca) 34 1 js.length us), (true, .bysO G (r.vs ++ us ++ xs) (ks52 ++ js ++ ts))]) (E2 := fun r => []) (bfA := fun r => [(true, gm, 61, [.slice r.a ks52.length r.c, .slice aa js.length ca, .int .i64 ((e53 : Nat) : Int)]), (true, r.o, 2, [.int .i64 z54, .int .i64 z55])]) (bf := fun r => [(true, gm, 61, [.slice r.a ks52.length r.c, .slice aa js.length ca, .int .i64 ((e53 : Nat) : Int)])]) (bf2 := fun r => [(true, r.o, 2, [.int .i64 z54, .int .i64 z55])]) rfl rfl rfl rfl rfl (Try.call57 _) rfl rfl (by decide) (by decide) (fun Z X hm => ops2_c gm am cm vs aa ca us G xs ts ks js er z54 z55 ks52 e53 (ok.mono (by decide)) hks52 _ _ _ hm) (fun _ => rfl) (fun _ => rfl) (fun _ => rfl) (fun _ => rfl) (fun _ => rfl) rfl fun ⟨ad57, cp58, vs59, g60⟩ ac w hs => ?_))
        refine lstep (wpO_plain rfl (op_assign hs none rfl rfl rfl rfl fun ac hs => ?_))
        refine wpList_nil ?_
        refine then_n ?_
        refine wp_seq ?_
        replace hs : St 90 ⟨w0, [], [(true, .own (.slice ad57 ks52.length cp58) 34 1 ks52.length vs59), (true, .own (.slice aa js.length ca) 34 1 js.length us), (true, .bysO G (vs59 ++ us ++ xs) (ks52 ++ js ++ ts))], Z, X⟩ [(0, true, .pointer (some ⟨gm, 0, none⟩)), (1, true, .int .u8 ((op : Nat) : Int)), (4, true, .bool false), (12, true, .slice (some ⟨g60, 0, none⟩) 2 2)] [(true, gm, 61, [.slice ad57 ks52.length cp58, .slice aa js.length ca, .int .i64 ((e53 : Nat) : Int)]), (true, g60, 2, [.int .i64 z54, .int .i64 z55])] ac _ := hs.re ⟨rfl, rfl, rfl, rfl, trivial⟩
        obtain ⟨z61, q62, hz61⟩ : ∃ z0 z1, binL op z54 z55 = (z0, z1) := ⟨_, _, rfl⟩
        have bz61 := binL_bd (show -2147483648 < z54 ∧ z54 < 2147483648 by omega) (show -2147483648 < z55 ∧ z55 < 2147483648 by omega) hz61
        refine region_inv [([], [7, 8, 9, 10, 11, 12]), ([], [2, 3, 7, 8, 9, 10, 11, 12]), ([1], [3, 7, 8, 9, 10, 11, 12]), ([1, 2], [7, 8, 9, 10, 11, 12]), ([], [5, 6, 7, 8, 9, 10, 11, 12]), ([4], [6, 7, 8, 9, 10, 11, 12]), ([4, 5], [7, 8, 9, 10, 11, 12]), ([0, 1, 2, 3, 4, 5, 6], [8, 9, 10, 11, 12]), ([0, 1, 2, 3, 4, 5, 6, 7], [9, 10, 11, 12]), ([0, 1, 2, 3, 4, 5, 6, 7, 8], [11, 12]), ([0, 1, 2, 3, 4, 5, 6, 7, 8], [12]), ([0, 1, 2, 3, 4, 5, 6, 7, 8, 9], [12]), ([0, 1, 2, 3, 4, 5, 6, 7, 8, 9, 10, 11], [])] (fun L ac w => St 90 ⟨w0, [], [(true, .own (.slice ad57 ks52.length cp58) 34 1 ks52.length vs59), (true, .own (.slice aa js.length ca) 34 1 js.length us), (true, .bysO G (vs59 ++ us ++ xs) (ks52 ++ js ++ ts))], Z, X⟩ [(69, L 0, .int .u8 ((op : Nat) : Int)), (70, L 1, .slice (some ⟨g60, 0, none⟩) 2 2), (71, L 2, .pointer (some ⟨g60, 0, none⟩)), (72, L 3, .int .i64 z54), (73, L 4, .slice (some ⟨g60, 0, none⟩) 2 2), (74, L 5, .pointer (some ⟨g60, 1, none⟩)), (75, L 6, .int .i64 z55), (76, L 7, .tuple #[.int .i64 z61, .bool q62]), (68, L 8, .tuple #[.int .i64 z61, .bool q62]), (77, L 9, .int .i64 z61), (78, L 10, .bool q62), (13, L 11, .int .i64 z61), (14, L 12, .bool q62), (0, true, .pointer (some ⟨gm, 0, none⟩)), (1, true, .int .u8 ((op : Nat) : Int)), (4, true, .bool false), (12, true, .slice (some ⟨g60, 0, none⟩) 2 2)] [(true, gm, 61, [.slice ad57 ks52.length cp58, .slice aa js.length ca, .int .i64 ((e53 : Nat) : Int)]), (true, g60, 2, [.int .i64 z54, .int .i64 z55])] ac w) (by kernel_rfl) (by kernel_rfl) ?_ ?_ ?_
        · exact hs.drew.skip.skip.skip.skip.skip.skip.skip.skip.skip.skip.skip.skip.skip
        · refine ⟨?_, ?_, ?_, ?_, ?_, ?_, ?_, ?_, ?_, ?_, ?_, ?_, ?_, trivial⟩
          · intro L ac w hJ
            have hs := hJ
            refine wpO_plain rfl (op_move hs (some 0) rfl rfl rfl rfl fun ac hs => ?_)
            exact hs
          · intro L ac w hJ
            have hs := hJ
            refine wpO_plain rfl (op_move hs (some 1) rfl rfl rfl rfl fun ac hs => ?_)
            exact hs
          · intro L ac w hJ
            have hs := hJ
            refine wpO_plain rfl (op_idxS hs (some 2) (j := 0) rfl rfl rfl rfl Try.underlying73 Try.sizeOf2 (by decide) (off := 0) rfl rfl fun ac hs => ?_)
            exact hs
          · intro L ac w hJ
            have hs := hJ
            refine wpO_plain rfl (op_load hs (some 3) 1 (v := .int .i64 z54) rfl rfl rfl rfl Try.isAgg2 Try.sizeOf2 rfl rfl fun ac hs => ?_)
            exact hs
          · intro L ac w hJ
            have hs := hJ
            refine wpO_plain rfl (op_move hs (some 4) rfl rfl rfl rfl fun ac hs => ?_)
            exact hs
          · intro L ac w hJ
            have hs := hJ
            refine wpO_plain rfl (op_idxS hs (some 5) (j := 1) rfl rfl rfl rfl Try.underlying73 Try.sizeOf2 (by decide) (off := 1) rfl rfl fun ac hs => ?_)
            exact hs
          · intro L ac w hJ
            have hs := hJ
            refine wpO_plain rfl (op_load hs (some 6) 1 (v := .int .i64 z55) rfl rfl rfl rfl Try.isAgg2 Try.sizeOf2 rfl rfl fun ac hs => ?_)
            exact hs
          · intro L ac w hJ
            have hs := hJ
            refine wpO_plain rfl (op_call (F := 59) hs (some 7) (v := .tuple #[.int .i64 z61, .bool q62]) rfl rfl rfl rfl (Try.call59 _) (binary_c op z54 z55 z61 q62 (show -2147483648 < z54 ∧ z54 < 2147483648 by omega) (show -2147483648 < z55 ∧ z55 < 2147483648 by omega) hz61) rfl fun ac w hs => ?_)
            exact hs
          · intro L ac w hJ
            have hs := hJ
            refine wpO_plain rfl (op_move hs (some 8) rfl rfl rfl rfl fun ac hs => ?_)
            exact hs
          · intro L ac w hJ
            have hs := hJ
            refine wpO_plain rfl (op_extract hs (some 9) rfl rfl rfl rfl rfl fun ac hs => ?_)
            exact hs
          · intro L ac w hJ
            have hs := hJ
            refine wpO_plain rfl (op_extract hs (some 10) rfl rfl rfl rfl rfl fun ac hs => ?_)
            exact hs
          · intro L ac w hJ
            have hs := hJ
            refine wpO_plain rfl (op_assign hs (some 11) rfl rfl rfl rfl fun ac hs => ?_)
            exact hs
          · intro L ac w hJ
            have hs := hJ
            refine wpO_plain rfl (op_assign hs (some 12) rfl rfl rfl rfl fun ac hs => ?_)
            exact hs
        intro ac w hJ
        replace hs : St 90 ⟨w0, [], [(true, .own (.slice ad57 ks52.length cp58) 34 1 ks52.length vs59), (true, .own (.slice aa js.length ca) 34 1 js.length us), (true, .bysO G (vs59 ++ us ++ xs) (ks52 ++ js ++ ts))], Z, X⟩ [(69, true, .int .u8 ((op : Nat) : Int)), (70, true, .slice (some ⟨g60, 0, none⟩) 2 2), (71, true, .pointer (some ⟨g60, 0, none⟩)), (72, true, .int .i64 z54), (73, true, .slice (some ⟨g60, 0, none⟩) 2 2), (74, true, .pointer (some ⟨g60, 1, none⟩)), (75, true, .int .i64 z55), (76, true, .tuple #[.int .i64 z61, .bool q62]), (68, true, .tuple #[.int .i64 z61, .bool q62]), (77, true, .int .i64 z61), (78, true, .bool q62), (13, true, .int .i64 z61), (14, true, .bool q62), (0, true, .pointer (some ⟨gm, 0, none⟩)), (1, true, .int .u8 ((op : Nat) : Int)), (4, true, .bool false), (12, true, .slice (some ⟨g60, 0, none⟩) 2 2)] [(true, gm, 61, [.slice ad57 ks52.length cp58, .slice aa js.length ca, .int .i64 ((e53 : Nat) : Int)]), (true, g60, 2, [.int .i64 z54, .int .i64 z55])] ac w := hJ
        refine then_n ?_
        refine wp_seq ?_
        refine wp_seq ?_
        refine wp_region_lit ?_
        refine lstep (wpO_plain rfl (op_move hs none rfl rfl rfl rfl fun ac hs => ?_))
        refine lstep (wpO_plain rfl (op_bin hs none (v := .bool (decide (op = 157))) rfl rfl rfl rfl (fun _ => rfl) (bin_eqlN (x := op) (y := 157)) rfl fun ac hs => ?_))
        refine wpList_nil ?_
        refine then_n ?_
        refine wp_cond_split (hs.ev rfl) (fun hc => ?_) (fun hc => ?_)
        · skip
          have hp63 := of_decide_eq_true hc
          refine wp_seq ?_
          refine wp_region_lit ?_
          refine lstep (wpO_plain rfl (op_move hs none rfl rfl rfl rfl fun ac hs => ?_))
          refine lstep (wpO_plain rfl (op_move hs none rfl rfl rfl rfl fun ac hs => ?_))
          refine lstep (wpO_plain rfl (op_bin hs none (v := .bool (decide (z61 ≠ 0))) rfl rfl rfl rfl (fun _ => rfl) (bin_neqI (x := z61) (y := 0)) rfl fun ac hs => ?_))
          obtain ⟨e64, he64⟩ : ∃ z0, mustE (decide (z61 ≠ 0)) e53 = z0 := ⟨_, rfl⟩
          refine lstep (wpO_plain rfl (op_callX (F := 46) (ρ := Unit) hs none none [0] [] (v := fun r => .tuple #[]) (S1 := []) (bs1 := [(true, gm, 61, [.slice ad57 ks52.length cp58, .slice aa js.length ca, .int .i64 ((e53 : Nat) : Int)])]) (E := fun r => []) (E1 := fun r => []) (E2 := fun r => []) (bfA := fun r => [(true, gm, 61, [.slice ad57 ks52.length cp58, .slice aa js.length ca, .int .i64 ((e64 : Nat) : Int)])]) (bf := fun r => [(true, gm, 61, [.slice ad57 ks52.length cp58, .slice aa js.length ca, .int .i64 ((e64 : Nat) : Int)])]) (bf2 := fun r => []) rfl rfl rfl rfl rfl (Try.call46 _) rfl rfl (by decide) (by decide) (fun Z X hm => must_c gm (.slice ad57 ks52.length cp58) (.slice aa js.length ca) e53 (decide (z61 ≠ 0)) e64 he64 _ _ _ hm) (fun _ => rfl) (fun _ => rfl) (fun _ => rfl) (fun _ => rfl) (fun _ => rfl) rfl fun _ ac w hs => ?_))
          refine wpList_nil ?_
          refine then_n ?_
          refine wp_seq ?_
          replace hs : St 90 ⟨w0, [], [(true, .own (.slice ad57 ks52.length cp58) 34 1 ks52.length vs59), (true, .own (.slice aa js.length ca) 34 1 js.length us), (true, .bysO G (vs59 ++ us ++ xs) (ks52 ++ js ++ ts))], Z, X⟩ [(0, true, .pointer (some ⟨gm, 0, none⟩)), (4, true, .bool false), (13, true, .int .i64 z61)] [(true, gm, 61, [.slice ad57 ks52.length cp58, .slice aa js.length ca, .int .i64 ((e64 : Nat) : Int)]), (true, g60, 2, [.int .i64 z54, .int .i64 z55])] ac _ := hs.re ⟨rfl, rfl, rfl, trivial⟩
          refine wp_region_lit ?_
          refine lstep (wpO_plain rfl (op_assign hs none rfl rfl rfl rfl fun ac hs => ?_))
          refine wpList_nil ?_
          refine then_n ?_
          refine wp_ret ?_
          refine then_r ?_
          have HS := hs
          have h0 := hp
          unfold recL at h0
          rw [if_neg hp29] at h0
          simp only [hz30, if_neg hcu] at h0
          simp only [hz50, if_neg hcb] at h0
          rw [if_pos hp63, hks52] at h0
          simp only [List.getD_cons_zero, List.getD_cons_succ, hz61] at h0
          rw [he64] at h0
          obtain ⟨hq, hk, he⟩ := inj3 h0
          subst hq
          subst hk
          subst he
          have hs := HS
          exact bodyPost_ret (res1 rfl (rv_t hs rfl)) hs.defers ⟨⟨ad57, cp58, vs59, G⟩, rfl, ((hs.selS [0, 1, 2] rfl (by decide)).selB [0] rfl (by decide)).mem⟩
        · skip
          have hp65 := of_decide_eq_false hc
          refine wp_skip ?_
          refine then_n ?_
          refine wp_seq ?_
          refine wp_region_lit ?_
          refine lstep (wpO_plain rfl (op_move hs none rfl rfl rfl rfl fun ac hs => ?_))
          refine lstep (wpO_plain rfl (op_move hs none rfl rfl rfl rfl fun ac hs => ?_))
          have lad66 : (enc z61).length ≤ 9 := enc_len (show -9223372036854775808 ≤ z61 by omega) (show z61 < 9223372036854775808 by omega)
          refine lstep (wpO_plain rfl (op_callV (F := 50) (ρ := Option Addr × Nat) hs none none (v := fun r => .slice r.1 ((enc z61).length) r.2) (E := fun r => [.own (.slice r.1 ((enc z61).length) r.2) 5 1 ((enc z61).length) (bcs (enc z61))]) (j := 1) rfl rfl rfl rfl (Try.call50 _) (fun hs => enc_o z61 (show -9223372036854775808 ≤ z61 by omega) (show z61 < 9223372036854775808 by omega) _ _) (fun _ => rfl) (fun _ => rfl) rfl rfl fun ⟨ad66, cp67⟩ ac w hs => ?_))
          refine lstep (wpO_plain rfl (op_bsO hs none none (qs := [(0, .slice ad66 ((enc z61).length) cp67)]) (cs := [.slice ad66 ((enc z61).length) cp67]) rfl rfl rfl rfl Try.underlying22 inf_slice_34 (by decide) (by decide) (fill_one _ _ rfl) rfl rfl rfl rfl fun ad69 ac w hs => ?_))
          replace hs := hs.freeze 4 rfl
          replace hs := hs.freeze 3 rfl
          refine lstep (wpO_plain rfl (op_callX (F := 38) (ρ := M1) hs none none [0] [0, 1, 2, 4, 3] (v := fun r => .tuple #[]) (S1 := [(true, .own (.slice ad57 ks52.length cp58) 34 1 ks52.length vs59), (true, .own (.slice aa js.length ca) 34 1 js.length us), (true, .bysO G (vs59 ++ us ++ xs) (ks52 ++ js ++ ts)), (true, .cel (.slice ad69 1 1) 1 ([.slice ad66 ((enc z61).length) cp67])), (true, .cel (.slice ad66 ((enc z61).length) cp67) ((enc z61).length) (bcs (enc z61)))]) (bs1 := [(true, gm, 61, [.slice ad57 ks52.length cp58, .slice aa js.length ca, .int .i64 ((e53 : Nat) : Int)])]) (E := fun r => [(true, .own (.slice r.a ((ks52 ++ [enc z61]).length) r.c) 34 1 ((ks52 ++ [enc z61]).length) r.vs), (true, .own (.slice aa js.length ca) 34 1 js.length us), (true, .bysO r.G (r.vs ++ us ++ xs) ((ks52 ++ [enc z61]) ++ js ++ ts)), (true, .cel (.slice ad69 1 1) 1 ([.slice ad66 ((enc z61).length) cp67])), (true, .cel (.slice ad66 ((enc z61).length) cp67) ((enc z61).length) (bcs (enc z61)))]) (E1 := fun r => [(true, .own (.slice r.a ((ks52 ++ [enc z61]).length) r.c) 34 1 ((ks52 ++ [enc z61]).length) r.vs), (true, .own (.slice aa js.length ca) 34 1 js.length us), (true, .bysO r.G (r.vs ++ us ++ xs) ((ks52 ++ [enc z61]) ++ js ++ ts)), (true, .cel (.slice ad69 1 1) 1 ([.slice ad66 ((enc z61).length) cp67])), (true, .cel (.slice ad66 ((enc z61).length) cp67) ((enc z61).length) (bcs (enc z61)))]) (E2 := fun r => []) (bfA := fun r => [(true, gm, 61, [.slice r.a ((ks52 ++ [enc z61]).length) r.c, .slice aa js.length ca, .int .i64 ((e53 : Nat) : Int)])]) (bf := fun r => [(true, gm, 61, [.slice r.a ((ks52 ++ [enc z61]).length) r.c, .slice aa js.length ca, .int .i64 ((e53 : Nat) : Int)])]) (bf2 := fun r => []) rfl rfl rfl rfl rfl (Try.call38 _) rfl rfl (by decide) (by decide) (fun Z X hm => pushC_c gm ad57 cp58 vs59 aa ca us G xs ts ks52 js e53 ad69 1 ad66 cp67 (enc z61) (show (enc z61).length ≤ 8000 by omega) (oks52.mono (by decide)) ((enc z61).length) rfl _ _ _ hm) (fun _ => rfl) (fun _ => rfl) (fun _ => rfl) (fun _ => rfl) (fun _ => rfl) rfl fun ⟨ad70, cp71, vs72, G73⟩ ac w hs => ?_))
          refine wpList_nil ?_
          refine then_n ?_
          refine wp_seq ?_
          replace hs : St 90 ⟨w0, [], [(true, .own (.slice ad70 ((ks52 ++ [enc z61]).length) cp71) 34 1 ((ks52 ++ [enc z61]).length) vs72), (true, .own (.slice aa js.length ca) 34 1 js.length us), (true, .bysO G73 (vs72 ++ us ++ xs) ((ks52 ++ [enc z61]) ++ js ++ ts)), (true, .cel (.slice ad66 ((enc z61).length) cp67) ((enc z61).length) (bcs (enc z61))), (true, .cel (.slice ad69 1 1) 1 ([.slice ad66 ((enc z61).length) cp67]))], Z, X⟩ [(4, true, .bool false)] [(true, gm, 61, [.slice ad70 ((ks52 ++ [enc z61]).length) cp71, .slice aa js.length ca, .int .i64 ((e53 : Nat) : Int)]), (true, g60, 2, [.int .i64 z54, .int .i64 z55])] ac _ := hs.re ⟨rfl, trivial⟩
          refine wp_region_lit ?_
          refine lstep (wpO_plain rfl (op_assign hs none rfl rfl rfl rfl fun ac hs => ?_))
          refine wpList_nil ?_
          refine then_n ?_
          refine wp_ret ?_
          have HS := hs
          have h0 := hp
          unfold recL at h0
          rw [if_neg hp29] at h0
          simp only [hz30, if_neg hcu] at h0
          simp only [hz50, if_neg hcb] at h0
          rw [if_neg hp65, hks52] at h0
          simp only [List.getD_cons_zero, List.getD_cons_succ, hz61] at h0
          obtain ⟨hq, hk, he⟩ := inj3 h0
          subst hq
          subst hk
          subst he
          have hs := HS
          exact bodyPost_ret (res1 rfl (rv_t hs rfl)) hs.defers ⟨⟨ad70, cp71, vs72, G73⟩, rfl, ((hs.selS [0, 1, 2] rfl (by decide)).selB [0] rfl (by decide)).mem⟩
end Go.Proofs.Ytikkhkjndbicgaa
