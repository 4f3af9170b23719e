/- What functions of the program compute; that they do. -/
import Derived.Test.YtappkgmbdoiocaaDoorTD4
import Derived.Test.YtappkgmbdoiocaaDoorD1
import Derived.Test.YtappkgmbdoiocaaDoorD2
set_option linter.unusedVariables false
set_option linter.unusedSimpArgs false
namespace Go.Proofs.YtappkgmbdoiocaaDoor
open Go.RowKit
noncomputable def ref24_Block_j1 (a297 : Int) (b367 : Int) : Option (Int × Int) := some ((a297, b367))
noncomputable def ref24_Block_l2 (rules_ : (List RuleD)) (n_1 : Int) (b402 : Int) : Option (Fl (Int) (Int)) := (getI rules_ n_1).bind fun e453 => cond e453.Ring (cond (decide ((b402 : Int) < (rules_.length : Int))) ((getI rules_ b402).bind fun e462 => cond e462.Ring (some (.go (IntKind.i64.wrap (b402 + 1)))) (some (.out b402))) (some (.out b402))) (some (.out b402))
noncomputable def ref24_Block_j3 (rules_ : (List RuleD)) (n_1 : Int) (a297 : Int) : Option (Int × Int) := (loop (fun s : Int => ref24_Block_l2 rules_ n_1 s) (IntKind.i64.wrap (n_1 + 1))).bind fun r => ref24_Block_j1 a297 r
noncomputable def ref24_Block_l4 (rules_ : (List RuleD)) (n_1 : Int) (a504 : Int) : Option (Fl (Int) (Int)) := (getI rules_ n_1).bind fun e555 => cond e555.Ring (cond (decide ((0 : Int) < a504)) ((getI rules_ (IntKind.i64.wrap (a504 - 1))).bind fun e564 => cond e564.Ring (some (.go (IntKind.i64.wrap (a504 - 1)))) (some (.out a504))) (some (.out a504))) (some (.out a504))
noncomputable def ref24_Block (rules_ : (List RuleD)) (n_1 : Int) : Option (Int × Int) := cond (decide ((n_1 : Int) < 0)) (some ((0, 0))) (cond (decide (((rules_.length : Int) : Int) ≤ n_1)) (some ((0, 0))) ((loop (fun s : Int => ref24_Block_l4 rules_ n_1 s) n_1).bind fun r => ref24_Block_j3 rules_ n_1 r))
set_option maxRecDepth 100000 in
set_option maxHeartbeats 4000000 in
theorem ref24_Block_c (T : Nat → Prop) (W0 : World) (hT : ∀ k, T k → k < W0.heap.size) (rules_ : (List RuleD)) (n_1 : Int) (v1 : Value) (hv1 : SlR R_RuleD T W0 v1 rules_) (y : Int × Int) (hM : ref24_Block rules_ n_1 = some y) : Rets Tryd.prog No 33 [v1, .int .i64 n_1] W0 (fun v w' => v = .tuple #[.int .i64 y.1, .int .i64 y.2]) := by
  refine enter (c := _) Tryd.func33 rfl T 60 Tryd.ntmps33 hT rfl fun a hS => ?_
  replace hS := hS.fact (SlF R_RuleD v1 rules_) (SlR.dn hv1)
  unfold ref24_Block at hM
  refine wp_seq_k fun K20 hK20 => ?_
  refine r_list ?_
  refine wl rfl (ky (v := .int .i64 0) hS (y_assign hS rfl) rfl rfl fun a hS => ?_)
  refine wl rfl (ky (v := .int .i64 0) hS (y_assign hS rfl) rfl rfl fun a hS => ?_)
  refine wpList_nil ?_
  try simp only [Exit.then, Exit.inBlock, ↓reduceIte, Nat.reduceEqDiff]
  refine hK20 _ _ ?_
  refine wp_seq_k fun K21 hK21 => ?_
  refine wp_seq_k fun K22 hK22 => ?_
  refine r_list ?_
  refine wl rfl (ky (v := .int .i64 n_1) hS (y_move hS rfl) rfl rfl fun a hS => ?_)
  refine wl rfl (ky (v := .bool (decide ((n_1 : Int) < 0))) hS (y_int hS rfl rfl rfl) rfl rfl fun a hS => ?_)
  refine wl rfl (ky (v := .bool (decide ((n_1 : Int) < 0))) hS (y_move hS rfl) rfl rfl fun a hS => ?_)
  rcases bool2 (decide ((n_1 : Int) < 0)) with hb226 | hb226
  · replace hM := ct hb226 hM
    refine wn hS rfl rfl rfl hb226 rfl rfl fun a hS => ?_
    refine wn hS rfl rfl rfl hb226 rfl rfl fun a hS => ?_
    refine wn hS rfl rfl rfl hb226 rfl rfl fun a hS => ?_
    refine wn hS rfl rfl rfl hb226 rfl rfl fun a hS => ?_
    refine wl rfl (ky (v := .bool true) hS (y_pickt hS rfl hb226 rfl) rfl rfl fun a hS => ?_)
    refine wpList_nil ?_
    try simp only [Exit.then, Exit.inBlock, ↓reduceIte, Nat.reduceEqDiff]
    refine hK22 _ _ ?_
    refine c_t hS rfl rfl ?_
    refine wp_seq_k fun K23 hK23 => ?_
    refine r_list ?_
    refine wl rfl (ky (v := .int .i64 0) hS (y_assign hS rfl) rfl rfl fun a hS => ?_)
    refine wl rfl (ky (v := .int .i64 0) hS (y_assign hS rfl) rfl rfl fun a hS => ?_)
    refine wpList_nil ?_
    try simp only [Exit.then, Exit.inBlock, ↓reduceIte, Nat.reduceEqDiff]
    refine hK23 _ _ ?_
    refine wp_ret ?_
    injection hM with hM
    subst hM
    try simp only [Exit.then, Exit.inBlock, ↓reduceIte, Nat.reduceEqDiff]
    refine ret_ok hS Tryd.results33 (res_tmp hS rfl (res_tmp hS rfl res_nil)) ?_
    exact rfl
  · replace hM := cf hb226 hM
    refine wg hS rfl rfl rfl hb226 (ky (v := .int .i64 n_1) hS (y_move hS rfl) rfl rfl fun a hS => ?_)
    refine wg hS rfl rfl rfl hb226 (ky (v := v1) hS (y_move hS rfl) rfl rfl fun a hS => ?_)
    refine wg hS rfl rfl rfl hb226 (ky (v := .int .i64 (rules_.length : Int)) hS (y_len (R := R_RuleD) (xs := rules_) hS sl49 rfl 0 rfl) rfl rfl fun a hS => ?_)
    refine wg hS rfl rfl rfl hb226 (ky (v := .bool (decide (((rules_.length : Int) : Int) ≤ n_1))) hS (y_int hS rfl rfl rfl) rfl rfl fun a hS => ?_)
    refine wl rfl (ky (v := .bool (decide (((rules_.length : Int) : Int) ≤ n_1))) hS (y_pickf hS rfl hb226 rfl) rfl rfl fun a hS => ?_)
    refine wpList_nil ?_
    try simp only [Exit.then, Exit.inBlock, ↓reduceIte, Nat.reduceEqDiff]
    refine hK22 _ _ ?_
    rcases bool2 (decide (((rules_.length : Int) : Int) ≤ n_1)) with hb227 | hb227
    · replace hM := ct hb227 hM
      refine c_t hS rfl hb227 ?_
      refine wp_seq_k fun K24 hK24 => ?_
      refine r_list ?_
      refine wl rfl (ky (v := .int .i64 0) hS (y_assign hS rfl) rfl rfl fun a hS => ?_)
      refine wl rfl (ky (v := .int .i64 0) hS (y_assign hS rfl) rfl rfl fun a hS => ?_)
      refine wpList_nil ?_
      try simp only [Exit.then, Exit.inBlock, ↓reduceIte, Nat.reduceEqDiff]
      refine hK24 _ _ ?_
      refine wp_ret ?_
      injection hM with hM
      subst hM
      try simp only [Exit.then, Exit.inBlock, ↓reduceIte, Nat.reduceEqDiff]
      refine ret_ok hS Tryd.results33 (res_tmp hS rfl (res_tmp hS rfl res_nil)) ?_
      exact rfl
    · replace hM := cf hb227 hM
      refine c_f hS rfl hb227 ?_
      refine wp_skip ?_
      try simp only [Exit.then, Exit.inBlock, ↓reduceIte, Nat.reduceEqDiff]
      refine hK21 _ _ ?_
      refine wp_seq_k fun K25 hK25 => ?_
      refine r_list ?_
      refine wl rfl (ky (v := .int .i64 n_1) hS (y_move hS rfl) rfl rfl fun a hS => ?_)
      refine wl rfl (ky (v := .int .i64 n_1) hS (y_move hS rfl) rfl rfl fun a hS => ?_)
      refine wl rfl (ky (v := .int .i64 (IntKind.i64.wrap (n_1 + 1))) hS (y_int hS rfl rfl rfl) rfl rfl fun a hS => ?_)
      refine wl rfl (ky (v := .int .i64 n_1) hS (y_assign hS rfl) rfl rfl fun a hS => ?_)
      refine wl rfl (ky (v := .int .i64 (IntKind.i64.wrap (n_1 + 1))) hS (y_assign hS rfl) rfl rfl fun a hS => ?_)
      refine wpList_nil ?_
      try simp only [Exit.then, Exit.inBlock, ↓reduceIte, Nat.reduceEqDiff]
      refine hK25 _ _ ?_
      refine seq_j (J := fun a w => ∃ (a297 : Int), St W0 No T 60 [(0, v1), (1, .int .i64 n_1), (6, .int .i64 a297), (7, .int .i64 (IntKind.i64.wrap (n_1 + 1)))] [] [SlF R_RuleD v1 rules_] a w ∧ ref24_Block_j3 rules_ n_1 a297 = some y) ?_ ?_
      · skip
        refine wp_block ?_
        obtain ⟨r1, hl1, hMo1⟩ := bd hM
        refine wp_lp (fun s : Int => ref24_Block_l4 rules_ n_1 s) (fun s a w => ∃ (a504 : Int), a504 = s ∧ St W0 No T 60 [(0, v1), (1, .int .i64 n_1), (6, .int .i64 a504), (7, .int .i64 (IntKind.i64.wrap (n_1 + 1)))] [] [SlF R_RuleD v1 rules_] a w) hl1 ⟨n_1, rfl, (hS.meet [] (by decide) ⟨rfl, rfl, rfl, rfl, trivial⟩ trivial ⟨⟨0, rfl⟩, trivial⟩)⟩ ?_
        rintro s a w f1 ⟨a504, rfl, hS⟩ hM hf1
        have hM : ref24_Block_l4 rules_ n_1 a504 = some f1 := hM
        unfold ref24_Block_l4 at hM
        refine wp_seq_k fun K45 hK45 => ?_
        refine wp_seq_k fun K46 hK46 => ?_
        refine r_list ?_
        refine wl rfl (ky (v := v1) hS (y_move hS rfl) rfl rfl fun a hS => ?_)
        refine wl rfl (ky (v := .int .i64 n_1) hS (y_move hS rfl) rfl rfl fun a hS => ?_)
        obtain ⟨e555, he555, hM⟩ := bd hM
        refine wl rfl (k_index (R := R_RuleD) hS sl49 ty53 rfl rfl 0 rfl he555 rfl fun b557 o558 cs560 hr559 a hS => ?_)
        obtain ⟨v556, rfl, hv556⟩ := hr559
        replace hS := hS.fact (SlF R_AskD v556 e555.Asks) hv556
        refine wl rfl (ky (v := .pointer (some ⟨b557, o558 + 0, none⟩)) hS (y_fld hS rfl fl53_0) rfl rfl fun a hS => ?_)
        refine wl rfl (ky (v := .bool e555.Ring) hS (y_loadc (k := 0) hS ty4 1 rfl rfl (fun _ h => h.elim) (us := [.bool e555.Ring]) rfl rfl (fun _ => rfl)) rfl rfl fun a hS => ?_)
        refine wl rfl (ky (v := .bool e555.Ring) hS (y_move hS rfl) rfl rfl fun a hS => ?_)
        rcases bool2 (e555.Ring) with hb562 | hb562
        · replace hM := ct hb562 hM
          refine wg hS rfl rfl rfl hb562 (ky (v := .int .i64 a504) hS (y_move hS rfl) rfl rfl fun a hS => ?_)
          refine wg hS rfl rfl rfl hb562 (ky (v := .bool (decide ((0 : Int) < a504))) hS (y_int hS rfl rfl rfl) rfl rfl fun a hS => ?_)
          refine wl rfl (ky (v := .bool (decide ((0 : Int) < a504))) hS (y_pickt hS rfl hb562 rfl) rfl rfl fun a hS => ?_)
          refine wl rfl (ky (v := .bool (decide ((0 : Int) < a504))) hS (y_move hS rfl) rfl rfl fun a hS => ?_)
          rcases bool2 (decide ((0 : Int) < a504)) with hb563 | hb563
          · replace hM := ct hb563 hM
            refine wg hS rfl rfl rfl hb563 (ky (v := v1) hS (y_move hS rfl) rfl rfl fun a hS => ?_)
            refine wg hS rfl rfl rfl hb563 (ky (v := .int .i64 a504) hS (y_move hS rfl) rfl rfl fun a hS => ?_)
            refine wg hS rfl rfl rfl hb563 (ky (v := .int .i64 (IntKind.i64.wrap (a504 - 1))) hS (y_int hS rfl rfl rfl) rfl rfl fun a hS => ?_)
            obtain ⟨e564, he564, hM⟩ := bd hM
            refine wg hS rfl rfl rfl hb563 (k_index (R := R_RuleD) hS sl49 ty53 rfl rfl 2 rfl he564 rfl fun b566 o567 cs569 hr568 a hS => ?_)
            obtain ⟨v565, rfl, hv565⟩ := hr568
            replace hS := hS.fact (SlF R_AskD v565 e564.Asks) hv565
            refine wg hS rfl rfl rfl hb563 (ky (v := .pointer (some ⟨b566, o567 + 0, none⟩)) hS (y_fld hS rfl fl53_0) rfl rfl fun a hS => ?_)
            refine wg hS rfl rfl rfl hb563 (ky (v := .bool e564.Ring) hS (y_loadc (k := 0) hS ty4 1 rfl rfl (fun _ h => h.elim) (us := [.bool e564.Ring]) rfl rfl (fun _ => rfl)) rfl rfl fun a hS => ?_)
            refine wl rfl (ky (v := .bool e564.Ring) hS (y_pickt hS rfl hb563 rfl) rfl rfl fun a hS => ?_)
            refine wpList_nil ?_
            try simp only [Exit.then, Exit.inBlock, ↓reduceIte, Nat.reduceEqDiff]
            refine hK46 _ _ ?_
            rcases bool2 (e564.Ring) with hb571 | hb571
            · replace hM := ct hb571 hM
              refine c_t hS rfl hb571 ?_
              refine wp_skip ?_
              try simp only [Exit.then, Exit.inBlock, ↓reduceIte, Nat.reduceEqDiff]
              refine hK45 _ _ ?_
              refine wp_block ?_
              refine r_list ?_
              refine wl rfl (ky (v := .int .i64 a504) hS (y_move hS rfl) rfl rfl fun a hS => ?_)
              refine wl rfl (ky (v := .int .i64 (IntKind.i64.wrap (a504 - 1))) hS (y_int hS rfl rfl rfl) rfl rfl fun a hS => ?_)
              refine wl rfl (ky (v := .int .i64 (IntKind.i64.wrap (a504 - 1))) hS (y_assign hS rfl) rfl rfl fun a hS => ?_)
              refine wpList_nil ?_
              try simp only [Exit.then, Exit.inBlock, ↓reduceIte, Nat.reduceEqDiff]
              exact ⟨IntKind.i64.wrap (a504 - 1), (Option.some.inj hM).symm, (IntKind.i64.wrap (a504 - 1)), rfl, (hS.meet [] (by decide) ⟨rfl, rfl, rfl, rfl, trivial⟩ trivial ⟨⟨4, rfl⟩, trivial⟩)⟩
            · replace hM := cf hb571 hM
              refine c_f hS rfl hb571 ?_
              refine wp_exit ?_
              try simp only [Exit.then, Exit.inBlock, ↓reduceIte, Nat.reduceEqDiff]
              injection hM with hM
              subst hM
              have hr := hf1 _ rfl
              subst hr
              have hM : ref24_Block_j3 rules_ n_1 a504 = some y := hMo1
              exact ⟨a504, (hS.meet [] (by decide) ⟨rfl, rfl, rfl, rfl, trivial⟩ trivial ⟨⟨4, rfl⟩, trivial⟩), hM⟩
          · replace hM := cf hb563 hM
            refine wn hS rfl rfl rfl hb563 rfl rfl fun a hS => ?_
            refine wn hS rfl rfl rfl hb563 rfl rfl fun a hS => ?_
            refine wn hS rfl rfl rfl hb563 rfl rfl fun a hS => ?_
            refine wn hS rfl rfl rfl hb563 rfl rfl fun a hS => ?_
            refine wn hS rfl rfl rfl hb563 rfl rfl fun a hS => ?_
            refine wn hS rfl rfl rfl hb563 rfl rfl fun a hS => ?_
            refine wl rfl (ky (v := .bool false) hS (y_pickf hS rfl hb563 rfl) rfl rfl fun a hS => ?_)
            refine wpList_nil ?_
            try simp only [Exit.then, Exit.inBlock, ↓reduceIte, Nat.reduceEqDiff]
            refine hK46 _ _ ?_
            refine c_f hS rfl rfl ?_
            refine wp_exit ?_
            try simp only [Exit.then, Exit.inBlock, ↓reduceIte, Nat.reduceEqDiff]
            injection hM with hM
            subst hM
            have hr := hf1 _ rfl
            subst hr
            have hM : ref24_Block_j3 rules_ n_1 a504 = some y := hMo1
            exact ⟨a504, (hS.meet [] (by decide) ⟨rfl, rfl, rfl, rfl, trivial⟩ trivial ⟨⟨2, rfl⟩, trivial⟩), hM⟩
        · replace hM := cf hb562 hM
          refine wn hS rfl rfl rfl hb562 rfl rfl fun a hS => ?_
          refine wn hS rfl rfl rfl hb562 rfl rfl fun a hS => ?_
          refine wl rfl (ky (v := .bool false) hS (y_pickf hS rfl hb562 rfl) rfl rfl fun a hS => ?_)
          refine wl rfl (ky (v := .bool false) hS (y_move hS rfl) rfl rfl fun a hS => ?_)
          refine wn hS rfl rfl rfl rfl rfl rfl fun a hS => ?_
          refine wn hS rfl rfl rfl rfl rfl rfl fun a hS => ?_
          refine wn hS rfl rfl rfl rfl rfl rfl fun a hS => ?_
          refine wn hS rfl rfl rfl rfl rfl rfl fun a hS => ?_
          refine wn hS rfl rfl rfl rfl rfl rfl fun a hS => ?_
          refine wn hS rfl rfl rfl rfl rfl rfl fun a hS => ?_
          refine wl rfl (ky (v := .bool false) hS (y_pickf hS rfl rfl rfl) rfl rfl fun a hS => ?_)
          refine wpList_nil ?_
          try simp only [Exit.then, Exit.inBlock, ↓reduceIte, Nat.reduceEqDiff]
          refine hK46 _ _ ?_
          refine c_f hS rfl rfl ?_
          refine wp_exit ?_
          try simp only [Exit.then, Exit.inBlock, ↓reduceIte, Nat.reduceEqDiff]
          injection hM with hM
          subst hM
          have hr := hf1 _ rfl
          subst hr
          have hM : ref24_Block_j3 rules_ n_1 a504 = some y := hMo1
          exact ⟨a504, (hS.meet [] (by decide) ⟨rfl, rfl, rfl, rfl, trivial⟩ trivial ⟨⟨2, rfl⟩, trivial⟩), hM⟩
      · rintro a w ⟨a297, hS, hM⟩
        unfold ref24_Block_j3 at hM
        refine seq_j (J := fun a w => ∃ (b367 : Int), St W0 No T 60 [(6, .int .i64 a297), (7, .int .i64 b367)] [] [] a w ∧ ref24_Block_j1 a297 b367 = some y) ?_ ?_
        · skip
          refine wp_block ?_
          obtain ⟨r1, hl1, hMo1⟩ := bd hM
          refine wp_lp (fun s : Int => ref24_Block_l2 rules_ n_1 s) (fun s a w => ∃ (b402 : Int), b402 = s ∧ St W0 No T 60 [(0, v1), (1, .int .i64 n_1), (6, .int .i64 a297), (7, .int .i64 b402)] [] [SlF R_RuleD v1 rules_] a w) hl1 ⟨(IntKind.i64.wrap (n_1 + 1)), rfl, (hS.meet [] (by decide) ⟨rfl, rfl, rfl, rfl, trivial⟩ trivial ⟨⟨0, rfl⟩, trivial⟩)⟩ ?_
          rintro s a w f1 ⟨b402, rfl, hS⟩ hM hf1
          have hM : ref24_Block_l2 rules_ n_1 b402 = some f1 := hM
          unfold ref24_Block_l2 at hM
          refine wp_seq_k fun K39 hK39 => ?_
          refine wp_seq_k fun K40 hK40 => ?_
          refine r_list ?_
          refine wl rfl (ky (v := v1) hS (y_move hS rfl) rfl rfl fun a hS => ?_)
          refine wl rfl (ky (v := .int .i64 n_1) hS (y_move hS rfl) rfl rfl fun a hS => ?_)
          obtain ⟨e453, he453, hM⟩ := bd hM
          refine wl rfl (k_index (R := R_RuleD) hS sl49 ty53 rfl rfl 0 rfl he453 rfl fun b455 o456 cs458 hr457 a hS => ?_)
          obtain ⟨v454, rfl, hv454⟩ := hr457
          replace hS := hS.fact (SlF R_AskD v454 e453.Asks) hv454
          refine wl rfl (ky (v := .pointer (some ⟨b455, o456 + 0, none⟩)) hS (y_fld hS rfl fl53_0) rfl rfl fun a hS => ?_)
          refine wl rfl (ky (v := .bool e453.Ring) hS (y_loadc (k := 0) hS ty4 1 rfl rfl (fun _ h => h.elim) (us := [.bool e453.Ring]) rfl rfl (fun _ => rfl)) rfl rfl fun a hS => ?_)
          refine wl rfl (ky (v := .bool e453.Ring) hS (y_move hS rfl) rfl rfl fun a hS => ?_)
          rcases bool2 (e453.Ring) with hb460 | hb460
          · replace hM := ct hb460 hM
            refine wg hS rfl rfl rfl hb460 (ky (v := .int .i64 b402) hS (y_move hS rfl) rfl rfl fun a hS => ?_)
            refine wg hS rfl rfl rfl hb460 (ky (v := v1) hS (y_move hS rfl) rfl rfl fun a hS => ?_)
            refine wg hS rfl rfl rfl hb460 (ky (v := .int .i64 (rules_.length : Int)) hS (y_len (R := R_RuleD) (xs := rules_) hS sl49 rfl 2 rfl) rfl rfl fun a hS => ?_)
            refine wg hS rfl rfl rfl hb460 (ky (v := .bool (decide ((b402 : Int) < (rules_.length : Int)))) hS (y_int hS rfl rfl rfl) rfl rfl fun a hS => ?_)
            refine wl rfl (ky (v := .bool (decide ((b402 : Int) < (rules_.length : Int)))) hS (y_pickt hS rfl hb460 rfl) rfl rfl fun a hS => ?_)
            refine wl rfl (ky (v := .bool (decide ((b402 : Int) < (rules_.length : Int)))) hS (y_move hS rfl) rfl rfl fun a hS => ?_)
            rcases bool2 (decide ((b402 : Int) < (rules_.length : Int))) with hb461 | hb461
            · replace hM := ct hb461 hM
              refine wg hS rfl rfl rfl hb461 (ky (v := v1) hS (y_move hS rfl) rfl rfl fun a hS => ?_)
              refine wg hS rfl rfl rfl hb461 (ky (v := .int .i64 b402) hS (y_move hS rfl) rfl rfl fun a hS => ?_)
              obtain ⟨e462, he462, hM⟩ := bd hM
              refine wg hS rfl rfl rfl hb461 (k_index (R := R_RuleD) hS sl49 ty53 rfl rfl 2 rfl he462 rfl fun b464 o465 cs467 hr466 a hS => ?_)
              obtain ⟨v463, rfl, hv463⟩ := hr466
              replace hS := hS.fact (SlF R_AskD v463 e462.Asks) hv463
              refine wg hS rfl rfl rfl hb461 (ky (v := .pointer (some ⟨b464, o465 + 0, none⟩)) hS (y_fld hS rfl fl53_0) rfl rfl fun a hS => ?_)
              refine wg hS rfl rfl rfl hb461 (ky (v := .bool e462.Ring) hS (y_loadc (k := 0) hS ty4 1 rfl rfl (fun _ h => h.elim) (us := [.bool e462.Ring]) rfl rfl (fun _ => rfl)) rfl rfl fun a hS => ?_)
              refine wl rfl (ky (v := .bool e462.Ring) hS (y_pickt hS rfl hb461 rfl) rfl rfl fun a hS => ?_)
              refine wpList_nil ?_
              try simp only [Exit.then, Exit.inBlock, ↓reduceIte, Nat.reduceEqDiff]
              refine hK40 _ _ ?_
              rcases bool2 (e462.Ring) with hb469 | hb469
              · replace hM := ct hb469 hM
                refine c_t hS rfl hb469 ?_
                refine wp_skip ?_
                try simp only [Exit.then, Exit.inBlock, ↓reduceIte, Nat.reduceEqDiff]
                refine hK39 _ _ ?_
                refine wp_block ?_
                refine r_list ?_
                refine wl rfl (ky (v := .int .i64 b402) hS (y_move hS rfl) rfl rfl fun a hS => ?_)
                refine wl rfl (ky (v := .int .i64 (IntKind.i64.wrap (b402 + 1))) hS (y_int hS rfl rfl rfl) rfl rfl fun a hS => ?_)
                refine wl rfl (ky (v := .int .i64 (IntKind.i64.wrap (b402 + 1))) hS (y_assign hS rfl) rfl rfl fun a hS => ?_)
                refine wpList_nil ?_
                try simp only [Exit.then, Exit.inBlock, ↓reduceIte, Nat.reduceEqDiff]
                exact ⟨IntKind.i64.wrap (b402 + 1), (Option.some.inj hM).symm, (IntKind.i64.wrap (b402 + 1)), rfl, (hS.meet [] (by decide) ⟨rfl, rfl, rfl, rfl, trivial⟩ trivial ⟨⟨4, rfl⟩, trivial⟩)⟩
              · replace hM := cf hb469 hM
                refine c_f hS rfl hb469 ?_
                refine wp_exit ?_
                try simp only [Exit.then, Exit.inBlock, ↓reduceIte, Nat.reduceEqDiff]
                injection hM with hM
                subst hM
                have hr := hf1 _ rfl
                subst hr
                have hM : ref24_Block_j1 a297 b402 = some y := hMo1
                exact ⟨b402, (hS.meet [] (by decide) ⟨rfl, rfl, trivial⟩ trivial trivial), hM⟩
            · replace hM := cf hb461 hM
              refine wn hS rfl rfl rfl hb461 rfl rfl fun a hS => ?_
              refine wn hS rfl rfl rfl hb461 rfl rfl fun a hS => ?_
              refine wn hS rfl rfl rfl hb461 rfl rfl fun a hS => ?_
              refine wn hS rfl rfl rfl hb461 rfl rfl fun a hS => ?_
              refine wn hS rfl rfl rfl hb461 rfl rfl fun a hS => ?_
              refine wl rfl (ky (v := .bool false) hS (y_pickf hS rfl hb461 rfl) rfl rfl fun a hS => ?_)
              refine wpList_nil ?_
              try simp only [Exit.then, Exit.inBlock, ↓reduceIte, Nat.reduceEqDiff]
              refine hK40 _ _ ?_
              refine c_f hS rfl rfl ?_
              refine wp_exit ?_
              try simp only [Exit.then, Exit.inBlock, ↓reduceIte, Nat.reduceEqDiff]
              injection hM with hM
              subst hM
              have hr := hf1 _ rfl
              subst hr
              have hM : ref24_Block_j1 a297 b402 = some y := hMo1
              exact ⟨b402, (hS.meet [] (by decide) ⟨rfl, rfl, trivial⟩ trivial trivial), hM⟩
          · replace hM := cf hb460 hM
            refine wn hS rfl rfl rfl hb460 rfl rfl fun a hS => ?_
            refine wn hS rfl rfl rfl hb460 rfl rfl fun a hS => ?_
            refine wn hS rfl rfl rfl hb460 rfl rfl fun a hS => ?_
            refine wn hS rfl rfl rfl hb460 rfl rfl fun a hS => ?_
            refine wl rfl (ky (v := .bool false) hS (y_pickf hS rfl hb460 rfl) rfl rfl fun a hS => ?_)
            refine wl rfl (ky (v := .bool false) hS (y_move hS rfl) rfl rfl fun a hS => ?_)
            refine wn hS rfl rfl rfl rfl rfl rfl fun a hS => ?_
            refine wn hS rfl rfl rfl rfl rfl rfl fun a hS => ?_
            refine wn hS rfl rfl rfl rfl rfl rfl fun a hS => ?_
            refine wn hS rfl rfl rfl rfl rfl rfl fun a hS => ?_
            refine wn hS rfl rfl rfl rfl rfl rfl fun a hS => ?_
            refine wl rfl (ky (v := .bool false) hS (y_pickf hS rfl rfl rfl) rfl rfl fun a hS => ?_)
            refine wpList_nil ?_
            try simp only [Exit.then, Exit.inBlock, ↓reduceIte, Nat.reduceEqDiff]
            refine hK40 _ _ ?_
            refine c_f hS rfl rfl ?_
            refine wp_exit ?_
            try simp only [Exit.then, Exit.inBlock, ↓reduceIte, Nat.reduceEqDiff]
            injection hM with hM
            subst hM
            have hr := hf1 _ rfl
            subst hr
            have hM : ref24_Block_j1 a297 b402 = some y := hMo1
            exact ⟨b402, (hS.meet [] (by decide) ⟨rfl, rfl, trivial⟩ trivial trivial), hM⟩
        · rintro a w ⟨b367, hS, hM⟩
          unfold ref24_Block_j1 at hM
          refine wp_seq_k fun K34 hK34 => ?_
          refine r_list ?_
          refine wl rfl (ky (v := .int .i64 a297) hS (y_move hS rfl) rfl rfl fun a hS => ?_)
          refine wl rfl (ky (v := .int .i64 b367) hS (y_move hS rfl) rfl rfl fun a hS => ?_)
          refine wl rfl (ky (v := .int .i64 a297) hS (y_assign hS rfl) rfl rfl fun a hS => ?_)
          refine wl rfl (ky (v := .int .i64 b367) hS (y_assign hS rfl) rfl rfl fun a hS => ?_)
          refine wpList_nil ?_
          try simp only [Exit.then, Exit.inBlock, ↓reduceIte, Nat.reduceEqDiff]
          refine hK34 _ _ ?_
          refine wp_ret ?_
          injection hM with hM
          subst hM
          try simp only [Exit.then, Exit.inBlock, ↓reduceIte, Nat.reduceEqDiff]
          refine ret_ok hS Tryd.results33 (res_tmp hS rfl (res_tmp hS rfl res_nil)) ?_
          exact rfl

noncomputable def ref24_may_j1 (g39 : Bool) : Option Bool := some (g39)
noncomputable def ref24_may_j2 (g55 : Bool) : Option Bool := some (g55)
noncomputable def ref24_may_j3 (n51 : Int) (b52 : Int) : Option Bool := cond (decide ((0 : Int) ≤ n51)) (ref24_may_j2 (decide ((n51 : Int) < b52))) (ref24_may_j2 false)
noncomputable def ref24_may (rules_ : (List RuleD)) (i_1 : Int) (x_2 : AskD) (n_3 : Int) : Option Bool := cond x_2.Cell (cond (decide ((0 : Int) ≤ n_3)) (ref24_may_j1 (decide ((n_3 : Int) ≤ 15))) (ref24_may_j1 false)) ((ref24_Block rules_ i_1).bind fun u41 => (getI rules_ i_1).bind fun e57 => cond (!(e57.Ring)) (ref24_may_j3 n_3 u41.1) (ref24_may_j3 n_3 u41.2))
set_option maxRecDepth 100000 in
set_option maxHeartbeats 4000000 in
theorem ref24_may_c (T : Nat → Prop) (W0 : World) (hT : ∀ k, T k → k < W0.heap.size) (rules_ : (List RuleD)) (i_1 : Int) (x_2 : AskD) (n_3 : Int) (v1 : Value) (hv1 : SlR R_RuleD T W0 v1 rules_) (y : Bool) (hM : ref24_may rules_ i_1 x_2 n_3 = some y) : Rets Tryd.prog No 53 [v1, .int .i64 i_1, .agg #[.bool x_2.Cell, .bool x_2.Pick, .int .i64 x_2.N, .int .i64 x_2.Else], .int .i64 n_3] W0 (fun v w' => v = .bool y) := by
  refine enter (c := _) Tryd.func53 rfl T 39 Tryd.ntmps53 hT rfl fun a hS => ?_
  replace hS := hS.fact (SlF R_RuleD v1 rules_) (SlR.dn hv1)
  unfold ref24_may at hM
  refine wp_seq_k fun K7 hK7 => ?_
  refine r_list ?_
  refine wl rfl (k_box hS rfl (cs := [.bool x_2.Cell, .bool x_2.Pick, .int .i64 x_2.N, .int .i64 x_2.Else]) rfl rfl fun b33 hnb35 a w hk hS => ?_)
  refine wl rfl (ky (v := .bool false) hS (y_assign hS rfl) rfl rfl fun a hS => ?_)
  refine wpList_nil ?_
  try simp only [Exit.then, Exit.inBlock, ↓reduceIte, Nat.reduceEqDiff]
  refine hK7 _ _ ?_
  refine wp_seq_k fun K8 hK8 => ?_
  refine wp_seq_k fun K9 hK9 => ?_
  refine r_list ?_
  refine wl rfl (ky (v := .pointer (some ⟨b33, 0 + 0, none⟩)) hS (y_fld hS rfl fl60_0) rfl rfl fun a hS => ?_)
  refine wl rfl (ky (v := .bool x_2.Cell) hS (y_load hS rfl ty4 0 rfl id (us := [.bool x_2.Cell]) rfl rfl (fun _ => rfl)) rfl rfl fun a hS => ?_)
  refine wpList_nil ?_
  try simp only [Exit.then, Exit.inBlock, ↓reduceIte, Nat.reduceEqDiff]
  refine hK9 _ _ ?_
  rcases bool2 (x_2.Cell) with hb36 | hb36
  · replace hM := ct hb36 hM
    refine c_t hS rfl hb36 ?_
    refine seq_j (J := fun a w => ∃ (g39 : Bool), St W0 No T 39 [(8, .bool g39)] [] [] a w ∧ ref24_may_j1 g39 = some y) ?_ ?_
    · skip
      refine r_list ?_
      refine wl rfl (ky (v := .int .i64 n_3) hS (y_move hS rfl) rfl rfl fun a hS => ?_)
      refine wl rfl (ky (v := .bool (decide ((0 : Int) ≤ n_3))) hS (y_int hS rfl rfl rfl) rfl rfl fun a hS => ?_)
      refine wl rfl (ky (v := .bool (decide ((0 : Int) ≤ n_3))) hS (y_move hS rfl) rfl rfl fun a hS => ?_)
      rcases bool2 (decide ((0 : Int) ≤ n_3)) with hb40 | hb40
      · replace hM := ct hb40 hM
        refine wg hS rfl rfl rfl hb40 (ky (v := .int .i64 n_3) hS (y_move hS rfl) rfl rfl fun a hS => ?_)
        refine wg hS rfl rfl rfl hb40 (ky (v := .bool (decide ((n_3 : Int) ≤ 15))) hS (y_int hS rfl rfl rfl) rfl rfl fun a hS => ?_)
        refine wl rfl (ky (v := .bool (decide ((n_3 : Int) ≤ 15))) hS (y_pickt hS rfl hb40 rfl) rfl rfl fun a hS => ?_)
        refine wl rfl (ky (v := .bool (decide ((n_3 : Int) ≤ 15))) hS (y_assign hS rfl) rfl rfl fun a hS => ?_)
        refine wpList_nil ?_
        try simp only [Exit.then, Exit.inBlock, ↓reduceIte, Nat.reduceEqDiff]
        exact ⟨(decide ((n_3 : Int) ≤ 15)), (hS.meet [] (by decide) ⟨rfl, trivial⟩ trivial trivial), hM⟩
      · replace hM := cf hb40 hM
        refine wn hS rfl rfl rfl hb40 rfl rfl fun a hS => ?_
        refine wn hS rfl rfl rfl hb40 rfl rfl fun a hS => ?_
        refine wl rfl (ky (v := .bool false) hS (y_pickf hS rfl hb40 rfl) rfl rfl fun a hS => ?_)
        refine wl rfl (ky (v := .bool false) hS (y_assign hS rfl) rfl rfl fun a hS => ?_)
        refine wpList_nil ?_
        try simp only [Exit.then, Exit.inBlock, ↓reduceIte, Nat.reduceEqDiff]
        exact ⟨false, (hS.meet [] (by decide) ⟨rfl, trivial⟩ trivial trivial), hM⟩
    · rintro a w ⟨g39, hS, hM⟩
      unfold ref24_may_j1 at hM
      refine wp_ret ?_
      injection hM with hM
      subst hM
      try simp only [Exit.then, Exit.inBlock, ↓reduceIte, Nat.reduceEqDiff]
      refine ret_ok hS Tryd.results53 (res_tmp hS rfl res_nil) ?_
      exact rfl
  · replace hM := cf hb36 hM
    refine c_f hS rfl hb36 ?_
    refine wp_skip ?_
    try simp only [Exit.then, Exit.inBlock, ↓reduceIte, Nat.reduceEqDiff]
    refine hK8 _ _ ?_
    refine wp_seq_k fun K10 hK10 => ?_
    refine r_list ?_
    refine wl rfl (ky (v := v1) hS (y_move hS rfl) rfl rfl fun a hS => ?_)
    refine wl rfl (ky (v := .int .i64 i_1) hS (y_move hS rfl) rfl rfl fun a hS => ?_)
    obtain ⟨u41, hu41, hM⟩ := bd hM
    refine wl rfl (k_call hS ci33 rfl rfl (ref24_Block_c _ _ hS.dlt rules_ i_1 _ (hS.get 0 rfl) _ hu41) fun _ w hR a hk hA => ?_)
    have he := Eq.symm hR
    subst he
    have hS := hA [] (fun r hr => by cases hr) List.Pairwise.nil
    refine wl rfl (ky (v := .tuple #[.int .i64 u41.1, .int .i64 u41.2]) hS (y_move hS rfl) rfl rfl fun a hS => ?_)
    refine wl rfl (ky (v := .int .i64 u41.1) hS (y_ex hS rfl rfl) rfl rfl fun a hS => ?_)
    refine wl rfl (ky (v := .int .i64 u41.2) hS (y_ex hS rfl rfl) rfl rfl fun a hS => ?_)
    refine wl rfl (ky (v := .int .i64 u41.1) hS (y_assign hS rfl) rfl rfl fun a hS => ?_)
    refine wl rfl (ky (v := .int .i64 u41.2) hS (y_assign hS rfl) rfl rfl fun a hS => ?_)
    refine wpList_nil ?_
    try simp only [Exit.then, Exit.inBlock, ↓reduceIte, Nat.reduceEqDiff]
    refine hK10 _ _ ?_
    refine seq_j (J := fun a w => ∃ (n51 : Int) (b52 : Int), St W0 No T 39 [(3, .int .i64 n51), (10, .int .i64 b52)] [] [] a w ∧ ref24_may_j3 n51 b52 = some y) ?_ ?_
    · skip
      refine wp_seq_k fun K12 hK12 => ?_
      refine r_list ?_
      refine wl rfl (ky (v := v1) hS (y_move hS rfl) rfl rfl fun a hS => ?_)
      refine wl rfl (ky (v := .int .i64 i_1) hS (y_move hS rfl) rfl rfl fun a hS => ?_)
      obtain ⟨e57, he57, hM⟩ := bd hM
      refine wl rfl (k_index (R := R_RuleD) hS sl49 ty53 rfl rfl 0 rfl he57 rfl fun b59 o60 cs62 hr61 a hS => ?_)
      obtain ⟨v58, rfl, hv58⟩ := hr61
      replace hS := hS.fact (SlF R_AskD v58 e57.Asks) hv58
      refine wl rfl (ky (v := .pointer (some ⟨b59, o60 + 0, none⟩)) hS (y_fld hS rfl fl53_0) rfl rfl fun a hS => ?_)
      refine wl rfl (ky (v := .bool e57.Ring) hS (y_loadc (k := 0) hS ty4 1 rfl rfl (fun _ h => h.elim) (us := [.bool e57.Ring]) rfl rfl (fun _ => rfl)) rfl rfl fun a hS => ?_)
      refine wl rfl (ky (v := .bool (!(e57.Ring))) hS (y_not hS rfl) rfl rfl fun a hS => ?_)
      refine wpList_nil ?_
      try simp only [Exit.then, Exit.inBlock, ↓reduceIte, Nat.reduceEqDiff]
      refine hK12 _ _ ?_
      rcases bool2 (!(e57.Ring)) with hb64 | hb64
      · replace hM := ct hb64 hM
        refine c_t hS rfl hb64 ?_
        refine r_list ?_
        refine wl rfl (ky (v := .int .i64 u41.1) hS (y_move hS rfl) rfl rfl fun a hS => ?_)
        refine wl rfl (ky (v := .int .i64 u41.1) hS (y_assign hS rfl) rfl rfl fun a hS => ?_)
        refine wpList_nil ?_
        try simp only [Exit.then, Exit.inBlock, ↓reduceIte, Nat.reduceEqDiff]
        exact ⟨n_3, u41.1, (hS.meet [] (by decide) ⟨rfl, rfl, trivial⟩ trivial trivial), hM⟩
      · replace hM := cf hb64 hM
        refine c_f hS rfl hb64 ?_
        refine wp_skip ?_
        try simp only [Exit.then, Exit.inBlock, ↓reduceIte, Nat.reduceEqDiff]
        exact ⟨n_3, u41.2, (hS.meet [] (by decide) ⟨rfl, rfl, trivial⟩ trivial trivial), hM⟩
    · rintro a w ⟨n51, b52, hS, hM⟩
      unfold ref24_may_j3 at hM
      refine seq_j (J := fun a w => ∃ (g55 : Bool), St W0 No T 39 [(8, .bool g55)] [] [] a w ∧ ref24_may_j2 g55 = some y) ?_ ?_
      · skip
        refine r_list ?_
        refine wl rfl (ky (v := .int .i64 n51) hS (y_move hS rfl) rfl rfl fun a hS => ?_)
        refine wl rfl (ky (v := .bool (decide ((0 : Int) ≤ n51))) hS (y_int hS rfl rfl rfl) rfl rfl fun a hS => ?_)
        refine wl rfl (ky (v := .bool (decide ((0 : Int) ≤ n51))) hS (y_move hS rfl) rfl rfl fun a hS => ?_)
        rcases bool2 (decide ((0 : Int) ≤ n51)) with hb56 | hb56
        · replace hM := ct hb56 hM
          refine wg hS rfl rfl rfl hb56 (ky (v := .int .i64 n51) hS (y_move hS rfl) rfl rfl fun a hS => ?_)
          refine wg hS rfl rfl rfl hb56 (ky (v := .int .i64 b52) hS (y_move hS rfl) rfl rfl fun a hS => ?_)
          refine wg hS rfl rfl rfl hb56 (ky (v := .bool (decide ((n51 : Int) < b52))) hS (y_int hS rfl rfl rfl) rfl rfl fun a hS => ?_)
          refine wl rfl (ky (v := .bool (decide ((n51 : Int) < b52))) hS (y_pickt hS rfl hb56 rfl) rfl rfl fun a hS => ?_)
          refine wl rfl (ky (v := .bool (decide ((n51 : Int) < b52))) hS (y_assign hS rfl) rfl rfl fun a hS => ?_)
          refine wpList_nil ?_
          try simp only [Exit.then, Exit.inBlock, ↓reduceIte, Nat.reduceEqDiff]
          exact ⟨(decide ((n51 : Int) < b52)), (hS.meet [] (by decide) ⟨rfl, trivial⟩ trivial trivial), hM⟩
        · replace hM := cf hb56 hM
          refine wn hS rfl rfl rfl hb56 rfl rfl fun a hS => ?_
          refine wn hS rfl rfl rfl hb56 rfl rfl fun a hS => ?_
          refine wn hS rfl rfl rfl hb56 rfl rfl fun a hS => ?_
          refine wl rfl (ky (v := .bool false) hS (y_pickf hS rfl hb56 rfl) rfl rfl fun a hS => ?_)
          refine wl rfl (ky (v := .bool false) hS (y_assign hS rfl) rfl rfl fun a hS => ?_)
          refine wpList_nil ?_
          try simp only [Exit.then, Exit.inBlock, ↓reduceIte, Nat.reduceEqDiff]
          exact ⟨false, (hS.meet [] (by decide) ⟨rfl, trivial⟩ trivial trivial), hM⟩
      · rintro a w ⟨g55, hS, hM⟩
        unfold ref24_may_j2 at hM
        refine wp_ret ?_
        injection hM with hM
        subst hM
        try simp only [Exit.then, Exit.inBlock, ↓reduceIte, Nat.reduceEqDiff]
        refine ret_ok hS Tryd.results53 (res_tmp hS rfl res_nil) ?_
        exact rfl

noncomputable def ref24_Valid_j1 (rules_ : (List RuleD)) : Option Bool := some (decide (((rules_.length : Int) : Int) ≤ 24))
noncomputable def ref24_Valid_j2 (g2365 : Int) : Option (Fl (Int) (Fl (Unit) Bool)) := some (.go (IntKind.i64.wrap (g2365 + 1)))
noncomputable def ref24_Valid_j3 (g2365 : Int) (g3063 : Bool) : Option (Fl (Int) (Fl (Unit) Bool)) := cond g3063 (some (.out (.out false))) (ref24_Valid_j2 g2365)
noncomputable def ref24_Valid_j4 (g2365 : Int) (e2957 : RuleD) : Option (Fl (Int) (Fl (Unit) Bool)) := cond e2957.Ring (cond ((e2957.Final : Int) != 5) (ref24_Valid_j3 g2365 true) (cond (decide ((e2957.C : Int) < 0)) (ref24_Valid_j3 g2365 true) (cond (decide ((65535 : Int) < e2957.C)) (ref24_Valid_j3 g2365 true) (ref24_Valid_j3 g2365 false)))) (cond (decide ((e2957.Final : Int) < 1)) (ref24_Valid_j3 g2365 true) (cond (decide ((4 : Int) < e2957.Final)) (ref24_Valid_j3 g2365 true) (cond (decide ((e2957.C : Int) < 0)) (ref24_Valid_j3 g2365 true) (ref24_Valid_j3 g2365 (decide ((999 : Int) < e2957.C))))))
noncomputable def ref24_Valid_j5 (g3112 : Int) (g3181 : Bool) : Option (Fl (Int) (Fl (Unit) Bool)) := cond g3181 (some (.out (.out false))) (some (.go (IntKind.i64.wrap (g3112 + 1))))
noncomputable def ref24_Valid_l6 (rules_ : (List RuleD)) (g2365 : Int) (e2957 : RuleD) (g3112 : Int) : Option (Fl (Int) (Fl (Unit) Bool)) := cond (decide ((g3112 : Int) < (e2957.Asks.length : Int))) ((getI e2957.Asks g3112).bind fun e3154 => (ref24_may rules_ g2365 e3154 e3154.N).bind fun u3183 => cond (!(u3183)) (ref24_Valid_j5 g3112 true) (cond e3154.Pick (cond e2957.Ring (ref24_Valid_j5 g3112 true) (cond ((g3112 : Int) == 0) (ref24_Valid_j5 g3112 true) ((ref24_may rules_ g2365 e3154 e3154.Else).bind fun u3189 => cond (!(u3189)) (ref24_Valid_j5 g3112 true) (ref24_Valid_j5 g3112 false)))) (ref24_Valid_j5 g3112 ((e3154.Else : Int) != 0)))) (some (.out (.go ())))
noncomputable def ref24_Valid_l7 (rules_ : (List RuleD)) (g2365 : Int) : Option (Fl (Int) (Fl (Unit) Bool)) := cond (decide ((g2365 : Int) < (rules_.length : Int))) ((getI rules_ g2365).bind fun e2957 => cond (decide ((6 : Int) < (e2957.Asks.length : Int))) (some (.out (.out false))) ((loop (fun s : Int => ref24_Valid_l6 rules_ g2365 e2957 s) 0).bind fun r => Fl.el r (fun s => ref24_Valid_j4 g2365 e2957) (fun y => some (.out (.out y))))) (some (.out (.go ())))
noncomputable def ref24_Valid (rules_ : (List RuleD)) : Option Bool := (loop (fun s : Int => ref24_Valid_l7 rules_ s) 0).bind fun r => Fl.el r (fun s => ref24_Valid_j1 rules_) (fun y => some (y))
set_option maxRecDepth 100000 in
set_option maxHeartbeats 4000000 in
theorem ref24_Valid_c (T : Nat → Prop) (W0 : World) (hT : ∀ k, T k → k < W0.heap.size) (rules_ : (List RuleD)) (v1 : Value) (hv1 : SlR R_RuleD T W0 v1 rules_) (y : Bool) (hM : ref24_Valid rules_ = some y) : Rets Tryd.prog No 31 [v1] W0 (fun v w' => v = .bool y) := by
  refine enter (c := _) Tryd.func31 rfl T 111 Tryd.ntmps31 hT rfl fun a hS => ?_
  replace hS := hS.fact (SlF R_RuleD v1 rules_) (SlR.dn hv1)
  unfold ref24_Valid at hM
  refine wp_seq_k fun K168 hK168 => ?_
  refine r_list ?_
  refine wl rfl (ky (v := .bool false) hS (y_assign hS rfl) rfl rfl fun a hS => ?_)
  refine wpList_nil ?_
  try simp only [Exit.then, Exit.inBlock, ↓reduceIte, Nat.reduceEqDiff]
  refine hK168 _ _ ?_
  refine seq_j (J := fun a w => St W0 No T 111 [(0, v1)] [] [SlF R_RuleD v1 rules_] a w ∧ ref24_Valid_j1 rules_ = some y) ?_ ?_
  · skip
    refine wp_seq_k fun K283 hK283 => ?_
    refine r_list ?_
    refine wl rfl (ky (v := v1) hS (y_move hS rfl) rfl rfl fun a hS => ?_)
    refine wl rfl (ky (v := .int .i64 (rules_.length : Int)) hS (y_len (R := R_RuleD) (xs := rules_) hS sl49 rfl 0 rfl) rfl rfl fun a hS => ?_)
    refine wl rfl (ky (v := .int .i64 0) hS (y_move hS rfl) rfl rfl fun a hS => ?_)
    refine wpList_nil ?_
    try simp only [Exit.then, Exit.inBlock, ↓reduceIte, Nat.reduceEqDiff]
    refine hK283 _ _ ?_
    refine wp_block ?_
    obtain ⟨r1, hl1, hMo1⟩ := bd hM
    refine wp_lp (fun s : Int => ref24_Valid_l7 rules_ s) (fun s a w => ∃ (g2365 : Int), g2365 = s ∧ St W0 No T 111 [(0, v1), (7, v1), (8, .int .i64 (rules_.length : Int)), (9, .int .i64 g2365)] [] [SlF R_RuleD v1 rules_] a w) hl1 ⟨0, rfl, (hS.meet [] (by decide) ⟨rfl, rfl, rfl, rfl, trivial⟩ trivial ⟨⟨0, rfl⟩, trivial⟩)⟩ ?_
    rintro s a w f1 ⟨g2365, rfl, hS⟩ hM hf1
    have hM : ref24_Valid_l7 rules_ g2365 = some f1 := hM
    unfold ref24_Valid_l7 at hM
    refine wp_seq_k fun K396 hK396 => ?_
    refine r_list ?_
    refine wl rfl (ky (v := .bool (decide ((g2365 : Int) < (rules_.length : Int)))) hS (y_int hS rfl rfl rfl) rfl rfl fun a hS => ?_)
    refine wpList_nil ?_
    try simp only [Exit.then, Exit.inBlock, ↓reduceIte, Nat.reduceEqDiff]
    refine hK396 _ _ ?_
    refine wp_seq_k fun K397 hK397 => ?_
    rcases bool2 (decide ((g2365 : Int) < (rules_.length : Int))) with hb2760 | hb2760
    · replace hM := ct hb2760 hM
      refine c_t hS rfl hb2760 ?_
      refine wp_skip ?_
      try simp only [Exit.then, Exit.inBlock, ↓reduceIte, Nat.reduceEqDiff]
      refine hK397 _ _ ?_
      refine seq_j (J := fun a w => St W0 No T 111 [(0, v1), (7, v1), (8, .int .i64 (rules_.length : Int)), (9, .int .i64 g2365)] [] [SlF R_RuleD v1 rules_] a w ∧ ref24_Valid_j2 g2365 = some f1) ?_ ?_
      · skip
        refine wp_block ?_
        refine wp_seq_k fun K425 hK425 => ?_
        refine r_list ?_
        refine wl rfl (ky (v := .int .i64 g2365) hS (y_move hS rfl) rfl rfl fun a hS => ?_)
        obtain ⟨e2957, he2957, hM⟩ := bd hM
        refine wl rfl (k_index (R := R_RuleD) hS sl49 ty53 rfl rfl 0 rfl he2957 rfl fun b2959 o2960 cs2962 hr2961 a hS => ?_)
        obtain ⟨v2958, rfl, hv2958⟩ := hr2961
        replace hS := hS.fact (SlF R_AskD v2958 e2957.Asks) hv2958
        refine wl rfl (ky (v := .agg #[.bool e2957.Ring, v2958, .int .i64 e2957.Final, .int .i64 e2957.C]) hS (y_loadc (k := 0) hS ty53 1 rfl rfl (fun _ h => h.elim) (us := [.bool e2957.Ring, v2958, .int .i64 e2957.Final, .int .i64 e2957.C]) rfl rfl (fun h => by cases h)) rfl rfl fun a hS => ?_)
        refine wl rfl (k_alloc hS ze53 rfl fun b2964 hnb2966 a w hk hS => ?_)
        refine wl rfl (ky (v := .int .i64 g2365) hS (y_assign hS rfl) rfl rfl fun a hS => ?_)
        refine wl rfl (k_store hS rfl rfl (us := [.bool e2957.Ring, v2958, .int .i64 e2957.Final, .int .i64 e2957.C]) rfl ty53 0 rfl rfl rfl (oc rfl (oc (SlR.one ((hS.get 0 rfl) : SlR R_AskD _ _ _ _)) (oc rfl (oc rfl on)))) fun w hk hS => ?_)
        refine wpList_nil ?_
        try simp only [Exit.then, Exit.inBlock, ↓reduceIte, Nat.reduceEqDiff]
        refine hK425 _ _ ?_
        refine wp_seq_k fun K426 hK426 => ?_
        refine wp_seq_k fun K427 hK427 => ?_
        refine r_list ?_
        refine wl rfl (ky (v := .pointer (some ⟨b2964, 0 + 1, none⟩)) hS (y_fld hS rfl fl53_1) rfl rfl fun a hS => ?_)
        refine wl rfl (ky (v := v2958) hS (y_load hS rfl ty51 0 rfl id (us := [v2958]) rfl rfl (fun _ => rfl)) rfl rfl fun a hS => ?_)
        refine wl rfl (ky (v := .int .i64 (e2957.Asks.length : Int)) hS (y_len (R := R_AskD) (xs := e2957.Asks) hS sl51 rfl 0 rfl) rfl rfl fun a hS => ?_)
        refine wl rfl (ky (v := .bool (decide ((6 : Int) < (e2957.Asks.length : Int)))) hS (y_int hS rfl rfl rfl) rfl rfl fun a hS => ?_)
        refine wpList_nil ?_
        try simp only [Exit.then, Exit.inBlock, ↓reduceIte, Nat.reduceEqDiff]
        refine hK427 _ _ ?_
        rcases bool2 (decide ((6 : Int) < (e2957.Asks.length : Int))) with hb2967 | hb2967
        · replace hM := ct hb2967 hM
          refine c_t hS rfl hb2967 ?_
          refine wp_seq_k fun K428 hK428 => ?_
          refine r_list ?_
          refine wl rfl (ky (v := .bool false) hS (y_assign hS rfl) rfl rfl fun a hS => ?_)
          refine wpList_nil ?_
          try simp only [Exit.then, Exit.inBlock, ↓reduceIte, Nat.reduceEqDiff]
          refine hK428 _ _ ?_
          refine wp_ret ?_
          injection hM with hM
          subst hM
          have hr := hf1 _ rfl
          subst hr
          replace hMo1 := el_out hMo1
          have hM := hMo1
          injection hM with hM
          subst hM
          try simp only [Exit.then, Exit.inBlock, ↓reduceIte, Nat.reduceEqDiff]
          refine ret_ok hS Tryd.results31 (res_tmp hS rfl res_nil) ?_
          exact rfl
        · replace hM := cf hb2967 hM
          refine c_f hS rfl hb2967 ?_
          refine wp_skip ?_
          try simp only [Exit.then, Exit.inBlock, ↓reduceIte, Nat.reduceEqDiff]
          refine hK426 _ _ ?_
          refine seq_j (J := fun a w => St W0 No T 111 [(0, v1), (4, .pointer (some ⟨b2964, 0, none⟩)), (7, v1), (8, .int .i64 (rules_.length : Int)), (9, .int .i64 g2365)] [.box b2964 [.bool e2957.Ring, v2958, .int .i64 e2957.Final, .int .i64 e2957.C] 53] [SlF R_RuleD v1 rules_, SlF R_AskD v2958 e2957.Asks] a w ∧ ref24_Valid_j4 g2365 e2957 = some f1) ?_ ?_
          · skip
            refine wp_seq_k fun K441 hK441 => ?_
            refine r_list ?_
            refine wl rfl (ky (v := .pointer (some ⟨b2964, 0 + 1, none⟩)) hS (y_fld hS rfl fl53_1) rfl rfl fun a hS => ?_)
            refine wl rfl (ky (v := v2958) hS (y_load hS rfl ty51 0 rfl id (us := [v2958]) rfl rfl (fun _ => rfl)) rfl rfl fun a hS => ?_)
            refine wl rfl (ky (v := .int .i64 (e2957.Asks.length : Int)) hS (y_len (R := R_AskD) (xs := e2957.Asks) hS sl51 rfl 0 rfl) rfl rfl fun a hS => ?_)
            refine wl rfl (ky (v := .int .i64 0) hS (y_move hS rfl) rfl rfl fun a hS => ?_)
            refine wpList_nil ?_
            try simp only [Exit.then, Exit.inBlock, ↓reduceIte, Nat.reduceEqDiff]
            refine hK441 _ _ ?_
            refine wp_block ?_
            obtain ⟨r2, hl2, hMo2⟩ := bd hM
            refine wp_lp (fun s : Int => ref24_Valid_l6 rules_ g2365 e2957 s) (fun s a w => ∃ (g3112 : Int), g3112 = s ∧ St W0 No T 111 [(0, v1), (3, .int .i64 g2365), (4, .pointer (some ⟨b2964, 0, none⟩)), (7, v1), (8, .int .i64 (rules_.length : Int)), (9, .int .i64 g2365), (19, v2958), (20, .int .i64 (e2957.Asks.length : Int)), (21, .int .i64 g3112)] [.box b2964 [.bool e2957.Ring, v2958, .int .i64 e2957.Final, .int .i64 e2957.C] 53] [SlF R_RuleD v1 rules_, SlF R_AskD v2958 e2957.Asks] a w) hl2 ⟨0, rfl, (hS.meet [0] (by decide) ⟨rfl, rfl, rfl, rfl, rfl, rfl, rfl, rfl, rfl, trivial⟩ ⟨rfl, trivial⟩ ⟨⟨2, rfl⟩, ⟨0, rfl⟩, trivial⟩)⟩ ?_
            rintro s a w f2 ⟨g3112, rfl, hS⟩ hM hf2
            have hM : ref24_Valid_l6 rules_ g2365 e2957 g3112 = some f2 := hM
            unfold ref24_Valid_l6 at hM
            refine wp_seq_k fun K452 hK452 => ?_
            refine r_list ?_
            refine wl rfl (ky (v := .bool (decide ((g3112 : Int) < (e2957.Asks.length : Int)))) hS (y_int hS rfl rfl rfl) rfl rfl fun a hS => ?_)
            refine wpList_nil ?_
            try simp only [Exit.then, Exit.inBlock, ↓reduceIte, Nat.reduceEqDiff]
            refine hK452 _ _ ?_
            refine wp_seq_k fun K453 hK453 => ?_
            rcases bool2 (decide ((g3112 : Int) < (e2957.Asks.length : Int))) with hb3153 | hb3153
            · replace hM := ct hb3153 hM
              refine c_t hS rfl hb3153 ?_
              refine wp_skip ?_
              try simp only [Exit.then, Exit.inBlock, ↓reduceIte, Nat.reduceEqDiff]
              refine hK453 _ _ ?_
              refine wp_seq_k fun K454 hK454 => ?_
              refine wp_block ?_
              refine wp_seq_k fun K455 hK455 => ?_
              refine r_list ?_
              refine wl rfl (ky (v := .int .i64 g3112) hS (y_move hS rfl) rfl rfl fun a hS => ?_)
              obtain ⟨e3154, he3154, hM⟩ := bd hM
              refine wl rfl (k_index (R := R_AskD) hS sl51 ty60 rfl rfl 1 rfl he3154 rfl fun b3155 o3156 cs3158 hr3157 a hS => ?_)
              obtain rfl := hr3157
              refine wl rfl (ky (v := .agg #[.bool e3154.Cell, .bool e3154.Pick, .int .i64 e3154.N, .int .i64 e3154.Else]) hS (y_loadc (k := 0) hS ty60 0 rfl rfl (fun _ h => h.elim) (us := [.bool e3154.Cell, .bool e3154.Pick, .int .i64 e3154.N, .int .i64 e3154.Else]) rfl rfl (fun h => by cases h)) rfl rfl fun a hS => ?_)
              refine wl rfl (k_alloc hS ze60 rfl fun b3160 hnb3162 a w hk hS => ?_)
              refine wl rfl (ky (v := .int .i64 g3112) hS (y_assign hS rfl) rfl rfl fun a hS => ?_)
              refine wl rfl (k_store hS rfl rfl (us := [.bool e3154.Cell, .bool e3154.Pick, .int .i64 e3154.N, .int .i64 e3154.Else]) rfl ty60 0 rfl rfl rfl (oc rfl (oc rfl (oc rfl (oc rfl on)))) fun w hk hS => ?_)
              refine wpList_nil ?_
              try simp only [Exit.then, Exit.inBlock, ↓reduceIte, Nat.reduceEqDiff]
              refine hK455 _ _ ?_
              refine seq_j (J := fun a w => ∃ (g3181 : Bool), St W0 No T 111 [(0, v1), (3, .int .i64 g2365), (4, .pointer (some ⟨b2964, 0, none⟩)), (7, v1), (8, .int .i64 (rules_.length : Int)), (9, .int .i64 g2365), (19, v2958), (20, .int .i64 (e2957.Asks.length : Int)), (21, .int .i64 g3112), (63, .bool g3181)] [.box b2964 [.bool e2957.Ring, v2958, .int .i64 e2957.Final, .int .i64 e2957.C] 53] [SlF R_RuleD v1 rules_, SlF R_AskD v2958 e2957.Asks] a w ∧ ref24_Valid_j5 g3112 g3181 = some f2) ?_ ?_
              · skip
                refine r_list ?_
                refine wl rfl (ky (v := v1) hS (y_move hS rfl) rfl rfl fun a hS => ?_)
                refine wl rfl (ky (v := .int .i64 g2365) hS (y_move hS rfl) rfl rfl fun a hS => ?_)
                refine wl rfl (ky (v := .agg #[.bool e3154.Cell, .bool e3154.Pick, .int .i64 e3154.N, .int .i64 e3154.Else]) hS (y_load hS rfl ty60 0 rfl id (us := [.bool e3154.Cell, .bool e3154.Pick, .int .i64 e3154.N, .int .i64 e3154.Else]) rfl rfl (fun h => by cases h)) rfl rfl fun a hS => ?_)
                refine wl rfl (ky (v := .pointer (some ⟨b3160, 0 + 2, none⟩)) hS (y_fld hS rfl fl60_2) rfl rfl fun a hS => ?_)
                refine wl rfl (ky (v := .int .i64 e3154.N) hS (y_load hS rfl ty3 0 rfl id (us := [.int .i64 e3154.N]) rfl rfl (fun _ => rfl)) rfl rfl fun a hS => ?_)
                obtain ⟨u3183, hu3183, hM⟩ := bd hM
                refine wl rfl (k_call hS ci53 rfl rfl (ref24_may_c _ _ hS.dlt rules_ g2365 e3154 e3154.N _ (hS.get 1 rfl) _ hu3183) fun _ w hR a hk hA => ?_)
                have he := Eq.symm hR
                subst he
                have hS := hA [] (fun r hr => by cases hr) List.Pairwise.nil
                refine wl rfl (ky (v := .bool (!(u3183))) hS (y_not hS rfl) rfl rfl fun a hS => ?_)
                refine wl rfl (ky (v := .bool (!(u3183))) hS (y_move hS rfl) rfl rfl fun a hS => ?_)
                rcases bool2 (!(u3183)) with hb3185 | hb3185
                · replace hM := ct hb3185 hM
                  refine wn hS rfl rfl rfl hb3185 rfl rfl fun a hS => ?_
                  refine wn hS rfl rfl rfl hb3185 rfl rfl fun a hS => ?_
                  refine wn hS rfl rfl rfl hb3185 rfl rfl fun a hS => ?_
                  refine wnu hS rfl rfl rfl rfl rfl fun a hS => ?_
                  refine wnu hS rfl rfl rfl rfl rfl fun a hS => ?_
                  refine wnu hS rfl rfl rfl rfl rfl fun a hS => ?_
                  refine wnu hS rfl rfl rfl rfl rfl fun a hS => ?_
                  refine wnu hS rfl rfl rfl rfl rfl fun a hS => ?_
                  refine wnu hS rfl rfl rfl rfl rfl fun a hS => ?_
                  refine wnu hS rfl rfl rfl rfl rfl fun a hS => ?_
                  refine wnu hS rfl rfl rfl rfl rfl fun a hS => ?_
                  refine wnu hS rfl rfl rfl rfl rfl fun a hS => ?_
                  refine wnu hS rfl rfl rfl rfl rfl fun a hS => ?_
                  refine wnu hS rfl rfl rfl rfl rfl fun a hS => ?_
                  refine wnu hS rfl rfl rfl rfl rfl fun a hS => ?_
                  refine wnu hS rfl rfl rfl rfl rfl fun a hS => ?_
                  refine wnu hS rfl rfl rfl rfl rfl fun a hS => ?_
                  refine wnu hS rfl rfl rfl rfl rfl fun a hS => ?_
                  refine wn hS rfl rfl rfl hb3185 rfl rfl fun a hS => ?_
                  refine wl rfl (ky (v := .bool true) hS (y_pickt hS rfl hb3185 rfl) rfl rfl fun a hS => ?_)
                  refine wl rfl (ky (v := .bool true) hS (y_move hS rfl) rfl rfl fun a hS => ?_)
                  refine wn hS rfl rfl rfl rfl rfl rfl fun a hS => ?_
                  refine wn hS rfl rfl rfl rfl rfl rfl fun a hS => ?_
                  refine wn hS rfl rfl rfl rfl rfl rfl fun a hS => ?_
                  refine wn hS rfl rfl rfl rfl rfl rfl fun a hS => ?_
                  refine wnu hS rfl rfl rfl rfl rfl fun a hS => ?_
                  refine wnu hS rfl rfl rfl rfl rfl fun a hS => ?_
                  refine wnu hS rfl rfl rfl rfl rfl fun a hS => ?_
                  refine wn hS rfl rfl rfl rfl rfl rfl fun a hS => ?_
                  refine wl rfl (ky (v := .bool true) hS (y_pickt hS rfl rfl rfl) rfl rfl fun a hS => ?_)
                  refine wpList_nil ?_
                  try simp only [Exit.then, Exit.inBlock, ↓reduceIte, Nat.reduceEqDiff]
                  exact ⟨true, (hS.meet [1] (by decide) ⟨rfl, rfl, rfl, rfl, rfl, rfl, rfl, rfl, rfl, rfl, trivial⟩ ⟨rfl, trivial⟩ ⟨⟨1, rfl⟩, ⟨2, rfl⟩, trivial⟩), hM⟩
                · replace hM := cf hb3185 hM
                  refine wg hS rfl rfl rfl hb3185 (ky (v := .pointer (some ⟨b3160, 0 + 1, none⟩)) hS (y_fld hS rfl fl60_1) rfl rfl fun a hS => ?_)
                  refine wg hS rfl rfl rfl hb3185 (ky (v := .bool e3154.Pick) hS (y_load hS rfl ty4 0 rfl id (us := [.bool e3154.Pick]) rfl rfl (fun _ => rfl)) rfl rfl fun a hS => ?_)
                  refine wg hS rfl rfl rfl hb3185 (ky (v := .bool e3154.Pick) hS (y_move hS rfl) rfl rfl fun a hS => ?_)
                  rcases bool2 (e3154.Pick) with hb3186 | hb3186
                  · replace hM := ct hb3186 hM
                    refine wg hS rfl rfl rfl hb3186 (ky (v := .pointer (some ⟨b2964, 0 + 0, none⟩)) hS (y_fld hS rfl fl53_0) rfl rfl fun a hS => ?_)
                    refine wg hS rfl rfl rfl hb3186 (ky (v := .bool e2957.Ring) hS (y_load hS rfl ty4 1 rfl id (us := [.bool e2957.Ring]) rfl rfl (fun _ => rfl)) rfl rfl fun a hS => ?_)
                    refine wg hS rfl rfl rfl hb3186 (ky (v := .bool e2957.Ring) hS (y_move hS rfl) rfl rfl fun a hS => ?_)
                    rcases bool2 (e2957.Ring) with hb3187 | hb3187
                    · replace hM := ct hb3187 hM
                      refine wn hS rfl rfl rfl hb3187 rfl rfl fun a hS => ?_
                      refine wn hS rfl rfl rfl hb3187 rfl rfl fun a hS => ?_
                      refine wg hS rfl rfl rfl hb3186 (ky (v := .bool true) hS (y_pickt hS rfl hb3187 rfl) rfl rfl fun a hS => ?_)
                      refine wg hS rfl rfl rfl hb3186 (ky (v := .bool true) hS (y_move hS rfl) rfl rfl fun a hS => ?_)
                      refine wn hS rfl rfl rfl rfl rfl rfl fun a hS => ?_
                      refine wn hS rfl rfl rfl rfl rfl rfl fun a hS => ?_
                      refine wn hS rfl rfl rfl rfl rfl rfl fun a hS => ?_
                      refine wn hS rfl rfl rfl rfl rfl rfl fun a hS => ?_
                      refine wn hS rfl rfl rfl rfl rfl rfl fun a hS => ?_
                      refine wn hS rfl rfl rfl rfl rfl rfl fun a hS => ?_
                      refine wn hS rfl rfl rfl rfl rfl rfl fun a hS => ?_
                      refine wg hS rfl rfl rfl hb3186 (ky (v := .bool true) hS (y_pickt hS rfl rfl rfl) rfl rfl fun a hS => ?_)
                      refine wg hS rfl rfl rfl hb3185 (ky (v := .bool true) hS (y_pickt hS rfl hb3186 rfl) rfl rfl fun a hS => ?_)
                      refine wl rfl (ky (v := .bool true) hS (y_pickf hS rfl hb3185 rfl) rfl rfl fun a hS => ?_)
                      refine wl rfl (ky (v := .bool true) hS (y_move hS rfl) rfl rfl fun a hS => ?_)
                      refine wn hS rfl rfl rfl rfl rfl rfl fun a hS => ?_
                      refine wn hS rfl rfl rfl rfl rfl rfl fun a hS => ?_
                      refine wn hS rfl rfl rfl rfl rfl rfl fun a hS => ?_
                      refine wn hS rfl rfl rfl rfl rfl rfl fun a hS => ?_
                      refine wnu hS rfl rfl rfl rfl rfl fun a hS => ?_
                      refine wnu hS rfl rfl rfl rfl rfl fun a hS => ?_
                      refine wnu hS rfl rfl rfl rfl rfl fun a hS => ?_
                      refine wn hS rfl rfl rfl rfl rfl rfl fun a hS => ?_
                      refine wl rfl (ky (v := .bool true) hS (y_pickt hS rfl rfl rfl) rfl rfl fun a hS => ?_)
                      refine wpList_nil ?_
                      try simp only [Exit.then, Exit.inBlock, ↓reduceIte, Nat.reduceEqDiff]
                      exact ⟨true, (hS.meet [1] (by decide) ⟨rfl, rfl, rfl, rfl, rfl, rfl, rfl, rfl, rfl, rfl, trivial⟩ ⟨rfl, trivial⟩ ⟨⟨1, rfl⟩, ⟨2, rfl⟩, trivial⟩), hM⟩
                    · replace hM := cf hb3187 hM
                      refine wg hS rfl rfl rfl hb3187 (ky (v := .int .i64 g3112) hS (y_move hS rfl) rfl rfl fun a hS => ?_)
                      refine wg hS rfl rfl rfl hb3187 (ky (v := .bool ((g3112 : Int) == 0)) hS (y_int hS rfl rfl rfl) rfl rfl fun a hS => ?_)
                      refine wg hS rfl rfl rfl hb3186 (ky (v := .bool ((g3112 : Int) == 0)) hS (y_pickf hS rfl hb3187 rfl) rfl rfl fun a hS => ?_)
                      refine wg hS rfl rfl rfl hb3186 (ky (v := .bool ((g3112 : Int) == 0)) hS (y_move hS rfl) rfl rfl fun a hS => ?_)
                      rcases bool2 ((g3112 : Int) == 0) with hb3188 | hb3188
                      · replace hM := ct hb3188 hM
                        refine wn hS rfl rfl rfl hb3188 rfl rfl fun a hS => ?_
                        refine wn hS rfl rfl rfl hb3188 rfl rfl fun a hS => ?_
                        refine wn hS rfl rfl rfl hb3188 rfl rfl fun a hS => ?_
                        refine wn hS rfl rfl rfl hb3188 rfl rfl fun a hS => ?_
                        refine wn hS rfl rfl rfl hb3188 rfl rfl fun a hS => ?_
                        refine wn hS rfl rfl rfl hb3188 rfl rfl fun a hS => ?_
                        refine wn hS rfl rfl rfl hb3188 rfl rfl fun a hS => ?_
                        refine wg hS rfl rfl rfl hb3186 (ky (v := .bool true) hS (y_pickt hS rfl hb3188 rfl) rfl rfl fun a hS => ?_)
                        refine wg hS rfl rfl rfl hb3185 (ky (v := .bool true) hS (y_pickt hS rfl hb3186 rfl) rfl rfl fun a hS => ?_)
                        refine wl rfl (ky (v := .bool true) hS (y_pickf hS rfl hb3185 rfl) rfl rfl fun a hS => ?_)
                        refine wl rfl (ky (v := .bool true) hS (y_move hS rfl) rfl rfl fun a hS => ?_)
                        refine wn hS rfl rfl rfl rfl rfl rfl fun a hS => ?_
                        refine wn hS rfl rfl rfl rfl rfl rfl fun a hS => ?_
                        refine wn hS rfl rfl rfl rfl rfl rfl fun a hS => ?_
                        refine wn hS rfl rfl rfl rfl rfl rfl fun a hS => ?_
                        refine wnu hS rfl rfl rfl rfl rfl fun a hS => ?_
                        refine wnu hS rfl rfl rfl rfl rfl fun a hS => ?_
                        refine wnu hS rfl rfl rfl rfl rfl fun a hS => ?_
                        refine wn hS rfl rfl rfl rfl rfl rfl fun a hS => ?_
                        refine wl rfl (ky (v := .bool true) hS (y_pickt hS rfl rfl rfl) rfl rfl fun a hS => ?_)
                        refine wpList_nil ?_
                        try simp only [Exit.then, Exit.inBlock, ↓reduceIte, Nat.reduceEqDiff]
                        exact ⟨true, (hS.meet [1] (by decide) ⟨rfl, rfl, rfl, rfl, rfl, rfl, rfl, rfl, rfl, rfl, trivial⟩ ⟨rfl, trivial⟩ ⟨⟨1, rfl⟩, ⟨2, rfl⟩, trivial⟩), hM⟩
                      · replace hM := cf hb3188 hM
                        refine wg hS rfl rfl rfl hb3188 (ky (v := v1) hS (y_move hS rfl) rfl rfl fun a hS => ?_)
                        refine wg hS rfl rfl rfl hb3188 (ky (v := .int .i64 g2365) hS (y_move hS rfl) rfl rfl fun a hS => ?_)
                        refine wg hS rfl rfl rfl hb3188 (ky (v := .agg #[.bool e3154.Cell, .bool e3154.Pick, .int .i64 e3154.N, .int .i64 e3154.Else]) hS (y_load hS rfl ty60 0 rfl id (us := [.bool e3154.Cell, .bool e3154.Pick, .int .i64 e3154.N, .int .i64 e3154.Else]) rfl rfl (fun h => by cases h)) rfl rfl fun a hS => ?_)
                        refine wg hS rfl rfl rfl hb3188 (ky (v := .pointer (some ⟨b3160, 0 + 3, none⟩)) hS (y_fld hS rfl fl60_3) rfl rfl fun a hS => ?_)
                        refine wg hS rfl rfl rfl hb3188 (ky (v := .int .i64 e3154.Else) hS (y_load hS rfl ty3 0 rfl id (us := [.int .i64 e3154.Else]) rfl rfl (fun _ => rfl)) rfl rfl fun a hS => ?_)
                        obtain ⟨u3189, hu3189, hM⟩ := bd hM
                        refine wg hS rfl rfl rfl hb3188 (k_call hS ci53 rfl rfl (ref24_may_c _ _ hS.dlt rules_ g2365 e3154 e3154.Else _ (hS.get 1 rfl) _ hu3189) fun _ w hR a hk hA => ?_)
                        have he := Eq.symm hR
                        subst he
                        have hS := hA [] (fun r hr => by cases hr) List.Pairwise.nil
                        refine wg hS rfl rfl rfl hb3188 (ky (v := .bool (!(u3189))) hS (y_not hS rfl) rfl rfl fun a hS => ?_)
                        refine wg hS rfl rfl rfl hb3186 (ky (v := .bool (!(u3189))) hS (y_pickf hS rfl hb3188 rfl) rfl rfl fun a hS => ?_)
                        refine wg hS rfl rfl rfl hb3185 (ky (v := .bool (!(u3189))) hS (y_pickt hS rfl hb3186 rfl) rfl rfl fun a hS => ?_)
                        refine wl rfl (ky (v := .bool (!(u3189))) hS (y_pickf hS rfl hb3185 rfl) rfl rfl fun a hS => ?_)
                        refine wl rfl (ky (v := .bool (!(u3189))) hS (y_move hS rfl) rfl rfl fun a hS => ?_)
                        rcases bool2 (!(u3189)) with hb3191 | hb3191
                        · replace hM := ct hb3191 hM
                          refine wn hS rfl rfl rfl hb3191 rfl rfl fun a hS => ?_
                          refine wn hS rfl rfl rfl hb3191 rfl rfl fun a hS => ?_
                          refine wn hS rfl rfl rfl hb3191 rfl rfl fun a hS => ?_
                          refine wn hS rfl rfl rfl hb3191 rfl rfl fun a hS => ?_
                          refine wnu hS rfl rfl rfl rfl rfl fun a hS => ?_
                          refine wnu hS rfl rfl rfl rfl rfl fun a hS => ?_
                          refine wnu hS rfl rfl rfl rfl rfl fun a hS => ?_
                          refine wn hS rfl rfl rfl hb3191 rfl rfl fun a hS => ?_
                          refine wl rfl (ky (v := .bool true) hS (y_pickt hS rfl hb3191 rfl) rfl rfl fun a hS => ?_)
                          refine wpList_nil ?_
                          try simp only [Exit.then, Exit.inBlock, ↓reduceIte, Nat.reduceEqDiff]
                          exact ⟨true, (hS.meet [1] (by decide) ⟨rfl, rfl, rfl, rfl, rfl, rfl, rfl, rfl, rfl, rfl, trivial⟩ ⟨rfl, trivial⟩ ⟨⟨1, rfl⟩, ⟨2, rfl⟩, trivial⟩), hM⟩
                        · replace hM := cf hb3191 hM
                          refine wg hS rfl rfl rfl hb3191 (ky (v := .pointer (some ⟨b3160, 0 + 1, none⟩)) hS (y_fld hS rfl fl60_1) rfl rfl fun a hS => ?_)
                          refine wg hS rfl rfl rfl hb3191 (ky (v := .bool e3154.Pick) hS (y_load hS rfl ty4 0 rfl id (us := [.bool e3154.Pick]) rfl rfl (fun _ => rfl)) rfl rfl fun a hS => ?_)
                          refine wg hS rfl rfl rfl hb3191 (ky (v := .bool (!(e3154.Pick))) hS (y_not hS rfl) rfl rfl fun a hS => ?_)
                          refine wg hS rfl rfl rfl hb3191 (ky (v := .bool (!(e3154.Pick))) hS (y_move hS rfl) rfl rfl fun a hS => ?_)
                          refine wn hS rfl rfl rfl (nt hb3186) rfl rfl fun a hS => ?_
                          refine wn hS rfl rfl rfl (nt hb3186) rfl rfl fun a hS => ?_
                          refine wn hS rfl rfl rfl (nt hb3186) rfl rfl fun a hS => ?_
                          refine wg hS rfl rfl rfl hb3191 (ky (v := .bool false) hS (y_pickf hS rfl (nt hb3186) rfl) rfl rfl fun a hS => ?_)
                          refine wl rfl (ky (v := .bool false) hS (y_pickf hS rfl hb3191 rfl) rfl rfl fun a hS => ?_)
                          refine wpList_nil ?_
                          try simp only [Exit.then, Exit.inBlock, ↓reduceIte, Nat.reduceEqDiff]
                          exact ⟨false, (hS.meet [1] (by decide) ⟨rfl, rfl, rfl, rfl, rfl, rfl, rfl, rfl, rfl, rfl, trivial⟩ ⟨rfl, trivial⟩ ⟨⟨1, rfl⟩, ⟨2, rfl⟩, trivial⟩), hM⟩
                  · replace hM := cf hb3186 hM
                    refine wn hS rfl rfl rfl hb3186 rfl rfl fun a hS => ?_
                    refine wn hS rfl rfl rfl hb3186 rfl rfl fun a hS => ?_
                    refine wn hS rfl rfl rfl hb3186 rfl rfl fun a hS => ?_
                    refine wnu hS rfl rfl rfl rfl rfl fun a hS => ?_
                    refine wnu hS rfl rfl rfl rfl rfl fun a hS => ?_
                    refine wn hS rfl rfl rfl hb3186 rfl rfl fun a hS => ?_
                    refine wn hS rfl rfl rfl hb3186 rfl rfl fun a hS => ?_
                    refine wnu hS rfl rfl rfl rfl rfl fun a hS => ?_
                    refine wnu hS rfl rfl rfl rfl rfl fun a hS => ?_
                    refine wnu hS rfl rfl rfl rfl rfl fun a hS => ?_
                    refine wnu hS rfl rfl rfl rfl rfl fun a hS => ?_
                    refine wnu hS rfl rfl rfl rfl rfl fun a hS => ?_
                    refine wnu hS rfl rfl rfl rfl rfl fun a hS => ?_
                    refine wnu hS rfl rfl rfl rfl rfl fun a hS => ?_
                    refine wn hS rfl rfl rfl hb3186 rfl rfl fun a hS => ?_
                    refine wg hS rfl rfl rfl hb3185 (ky (v := .bool false) hS (y_pickf hS rfl hb3186 rfl) rfl rfl fun a hS => ?_)
                    refine wl rfl (ky (v := .bool false) hS (y_pickf hS rfl hb3185 rfl) rfl rfl fun a hS => ?_)
                    refine wl rfl (ky (v := .bool false) hS (y_move hS rfl) rfl rfl fun a hS => ?_)
                    refine wg hS rfl rfl rfl rfl (ky (v := .pointer (some ⟨b3160, 0 + 1, none⟩)) hS (y_fld hS rfl fl60_1) rfl rfl fun a hS => ?_)
                    refine wg hS rfl rfl rfl rfl (ky (v := .bool e3154.Pick) hS (y_load hS rfl ty4 0 rfl id (us := [.bool e3154.Pick]) rfl rfl (fun _ => rfl)) rfl rfl fun a hS => ?_)
                    refine wg hS rfl rfl rfl rfl (ky (v := .bool (!(e3154.Pick))) hS (y_not hS rfl) rfl rfl fun a hS => ?_)
                    refine wg hS rfl rfl rfl rfl (ky (v := .bool (!(e3154.Pick))) hS (y_move hS rfl) rfl rfl fun a hS => ?_)
                    refine wg hS rfl rfl rfl (nf hb3186) (ky (v := .pointer (some ⟨b3160, 0 + 3, none⟩)) hS (y_fld hS rfl fl60_3) rfl rfl fun a hS => ?_)
                    refine wg hS rfl rfl rfl (nf hb3186) (ky (v := .int .i64 e3154.Else) hS (y_load hS rfl ty3 0 rfl id (us := [.int .i64 e3154.Else]) rfl rfl (fun _ => rfl)) rfl rfl fun a hS => ?_)
                    refine wg hS rfl rfl rfl (nf hb3186) (ky (v := .bool ((e3154.Else : Int) != 0)) hS (y_int hS rfl rfl rfl) rfl rfl fun a hS => ?_)
                    refine wg hS rfl rfl rfl rfl (ky (v := .bool ((e3154.Else : Int) != 0)) hS (y_pickt hS rfl (nf hb3186) rfl) rfl rfl fun a hS => ?_)
                    refine wl rfl (ky (v := .bool ((e3154.Else : Int) != 0)) hS (y_pickf hS rfl rfl rfl) rfl rfl fun a hS => ?_)
                    refine wpList_nil ?_
                    try simp only [Exit.then, Exit.inBlock, ↓reduceIte, Nat.reduceEqDiff]
                    exact ⟨((e3154.Else : Int) != 0), (hS.meet [1] (by decide) ⟨rfl, rfl, rfl, rfl, rfl, rfl, rfl, rfl, rfl, rfl, trivial⟩ ⟨rfl, trivial⟩ ⟨⟨1, rfl⟩, ⟨2, rfl⟩, trivial⟩), hM⟩
              · rintro a w ⟨g3181, hS, hM⟩
                unfold ref24_Valid_j5 at hM
                rcases bool2 (g3181) with hb3182 | hb3182
                · replace hM := ct hb3182 hM
                  refine c_t hS rfl hb3182 ?_
                  refine wp_seq_k fun K456 hK456 => ?_
                  refine r_list ?_
                  refine wl rfl (ky (v := .bool false) hS (y_assign hS rfl) rfl rfl fun a hS => ?_)
                  refine wpList_nil ?_
                  try simp only [Exit.then, Exit.inBlock, ↓reduceIte, Nat.reduceEqDiff]
                  refine hK456 _ _ ?_
                  refine wp_ret ?_
                  injection hM with hM
                  subst hM
                  have hr := hf2 _ rfl
                  subst hr
                  replace hMo2 := el_out hMo2
                  have hM := hMo2
                  injection hM with hM
                  subst hM
                  have hr := hf1 _ rfl
                  subst hr
                  replace hMo1 := el_out hMo1
                  have hM := hMo1
                  injection hM with hM
                  subst hM
                  try simp only [Exit.then, Exit.inBlock, ↓reduceIte, Nat.reduceEqDiff]
                  refine ret_ok hS Tryd.results31 (res_tmp hS rfl res_nil) ?_
                  exact rfl
                · replace hM := cf hb3182 hM
                  refine c_f hS rfl hb3182 ?_
                  refine wp_skip ?_
                  try simp only [Exit.then, Exit.inBlock, ↓reduceIte, Nat.reduceEqDiff]
                  refine hK454 _ _ ?_
                  refine r_list ?_
                  refine wl rfl (ky (v := .int .i64 (IntKind.i64.wrap (g3112 + 1))) hS (y_int hS rfl rfl rfl) rfl rfl fun a hS => ?_)
                  refine wl rfl (ky (v := .int .i64 (IntKind.i64.wrap (g3112 + 1))) hS (y_move hS rfl) rfl rfl fun a hS => ?_)
                  refine wpList_nil ?_
                  try simp only [Exit.then, Exit.inBlock, ↓reduceIte, Nat.reduceEqDiff]
                  exact ⟨IntKind.i64.wrap (g3112 + 1), (Option.some.inj hM).symm, (IntKind.i64.wrap (g3112 + 1)), rfl, (hS.meet [0] (by decide) ⟨rfl, rfl, rfl, rfl, rfl, rfl, rfl, rfl, rfl, trivial⟩ ⟨rfl, trivial⟩ ⟨⟨0, rfl⟩, ⟨1, rfl⟩, trivial⟩)⟩
            · replace hM := cf hb3153 hM
              refine c_f hS rfl hb3153 ?_
              refine wp_exit ?_
              try simp only [Exit.then, Exit.inBlock, ↓reduceIte, Nat.reduceEqDiff]
              injection hM with hM
              subst hM
              have hr := hf2 _ rfl
              subst hr
              replace hMo2 := el_go hMo2
              have hM : ref24_Valid_j4 g2365 e2957 = some f1 := hMo2
              exact ⟨(hS.meet [0] (by decide) ⟨rfl, rfl, rfl, rfl, rfl, trivial⟩ ⟨rfl, trivial⟩ ⟨⟨0, rfl⟩, ⟨1, rfl⟩, trivial⟩), hM⟩
          · rintro a w ⟨hS, hM⟩
            unfold ref24_Valid_j4 at hM
            refine seq_j (J := fun a w => ∃ (g3063 : Bool), St W0 No T 111 [(0, v1), (7, v1), (8, .int .i64 (rules_.length : Int)), (9, .int .i64 g2365), (106, .bool g3063)] [] [SlF R_RuleD v1 rules_] a w ∧ ref24_Valid_j3 g2365 g3063 = some f1) ?_ ?_
            · skip
              refine r_list ?_
              refine wl rfl (ky (v := .pointer (some ⟨b2964, 0 + 0, none⟩)) hS (y_fld hS rfl fl53_0) rfl rfl fun a hS => ?_)
              refine wl rfl (ky (v := .bool e2957.Ring) hS (y_load hS rfl ty4 0 rfl id (us := [.bool e2957.Ring]) rfl rfl (fun _ => rfl)) rfl rfl fun a hS => ?_)
              refine wl rfl (ky (v := .bool e2957.Ring) hS (y_move hS rfl) rfl rfl fun a hS => ?_)
              rcases bool2 (e2957.Ring) with hb3065 | hb3065
              · replace hM := ct hb3065 hM
                refine wg hS rfl rfl rfl hb3065 (ky (v := .pointer (some ⟨b2964, 0 + 2, none⟩)) hS (y_fld hS rfl fl53_2) rfl rfl fun a hS => ?_)
                refine wg hS rfl rfl rfl hb3065 (ky (v := .int .i64 e2957.Final) hS (y_load hS rfl ty3 0 rfl id (us := [.int .i64 e2957.Final]) rfl rfl (fun _ => rfl)) rfl rfl fun a hS => ?_)
                refine wg hS rfl rfl rfl hb3065 (ky (v := .bool ((e2957.Final : Int) != 5)) hS (y_int hS rfl rfl rfl) rfl rfl fun a hS => ?_)
                refine wg hS rfl rfl rfl hb3065 (ky (v := .bool ((e2957.Final : Int) != 5)) hS (y_move hS rfl) rfl rfl fun a hS => ?_)
                rcases bool2 ((e2957.Final : Int) != 5) with hb3066 | hb3066
                · replace hM := ct hb3066 hM
                  refine wn hS rfl rfl rfl hb3066 rfl rfl fun a hS => ?_
                  refine wn hS rfl rfl rfl hb3066 rfl rfl fun a hS => ?_
                  refine wn hS rfl rfl rfl hb3066 rfl rfl fun a hS => ?_
                  refine wg hS rfl rfl rfl hb3065 (ky (v := .bool true) hS (y_pickt hS rfl hb3066 rfl) rfl rfl fun a hS => ?_)
                  refine wg hS rfl rfl rfl hb3065 (ky (v := .bool true) hS (y_move hS rfl) rfl rfl fun a hS => ?_)
                  refine wn hS rfl rfl rfl rfl rfl rfl fun a hS => ?_
                  refine wn hS rfl rfl rfl rfl rfl rfl fun a hS => ?_
                  refine wn hS rfl rfl rfl rfl rfl rfl fun a hS => ?_
                  refine wg hS rfl rfl rfl hb3065 (ky (v := .bool true) hS (y_pickt hS rfl rfl rfl) rfl rfl fun a hS => ?_)
                  refine wl rfl (ky (v := .bool true) hS (y_pickt hS rfl hb3065 rfl) rfl rfl fun a hS => ?_)
                  refine wl rfl (ky (v := .bool true) hS (y_move hS rfl) rfl rfl fun a hS => ?_)
                  refine wn hS rfl rfl rfl rfl rfl rfl fun a hS => ?_
                  refine wn hS rfl rfl rfl rfl rfl rfl fun a hS => ?_
                  refine wn hS rfl rfl rfl rfl rfl rfl fun a hS => ?_
                  refine wn hS rfl rfl rfl rfl rfl rfl fun a hS => ?_
                  refine wnu hS rfl rfl rfl rfl rfl fun a hS => ?_
                  refine wnu hS rfl rfl rfl rfl rfl fun a hS => ?_
                  refine wnu hS rfl rfl rfl rfl rfl fun a hS => ?_
                  refine wnu hS rfl rfl rfl rfl rfl fun a hS => ?_
                  refine wnu hS rfl rfl rfl rfl rfl fun a hS => ?_
                  refine wnu hS rfl rfl rfl rfl rfl fun a hS => ?_
                  refine wnu hS rfl rfl rfl rfl rfl fun a hS => ?_
                  refine wnu hS rfl rfl rfl rfl rfl fun a hS => ?_
                  refine wnu hS rfl rfl rfl rfl rfl fun a hS => ?_
                  refine wnu hS rfl rfl rfl rfl rfl fun a hS => ?_
                  refine wnu hS rfl rfl rfl rfl rfl fun a hS => ?_
                  refine wnu hS rfl rfl rfl rfl rfl fun a hS => ?_
                  refine wnu hS rfl rfl rfl rfl rfl fun a hS => ?_
                  refine wnu hS rfl rfl rfl rfl rfl fun a hS => ?_
                  refine wnu hS rfl rfl rfl rfl rfl fun a hS => ?_
                  refine wnu hS rfl rfl rfl rfl rfl fun a hS => ?_
                  refine wnu hS rfl rfl rfl rfl rfl fun a hS => ?_
                  refine wnu hS rfl rfl rfl rfl rfl fun a hS => ?_
                  refine wn hS rfl rfl rfl rfl rfl rfl fun a hS => ?_
                  refine wl rfl (ky (v := .bool true) hS (y_pickt hS rfl rfl rfl) rfl rfl fun a hS => ?_)
                  refine wpList_nil ?_
                  try simp only [Exit.then, Exit.inBlock, ↓reduceIte, Nat.reduceEqDiff]
                  exact ⟨true, (hS.meet [] (by decide) ⟨rfl, rfl, rfl, rfl, rfl, trivial⟩ trivial ⟨⟨0, rfl⟩, trivial⟩), hM⟩
                · replace hM := cf hb3066 hM
                  refine wg hS rfl rfl rfl hb3066 (ky (v := .pointer (some ⟨b2964, 0 + 3, none⟩)) hS (y_fld hS rfl fl53_3) rfl rfl fun a hS => ?_)
                  refine wg hS rfl rfl rfl hb3066 (ky (v := .int .i64 e2957.C) hS (y_load hS rfl ty3 0 rfl id (us := [.int .i64 e2957.C]) rfl rfl (fun _ => rfl)) rfl rfl fun a hS => ?_)
                  refine wg hS rfl rfl rfl hb3066 (ky (v := .bool (decide ((e2957.C : Int) < 0))) hS (y_int hS rfl rfl rfl) rfl rfl fun a hS => ?_)
                  refine wg hS rfl rfl rfl hb3065 (ky (v := .bool (decide ((e2957.C : Int) < 0))) hS (y_pickf hS rfl hb3066 rfl) rfl rfl fun a hS => ?_)
                  refine wg hS rfl rfl rfl hb3065 (ky (v := .bool (decide ((e2957.C : Int) < 0))) hS (y_move hS rfl) rfl rfl fun a hS => ?_)
                  rcases bool2 (decide ((e2957.C : Int) < 0)) with hb3067 | hb3067
                  · replace hM := ct hb3067 hM
                    refine wn hS rfl rfl rfl hb3067 rfl rfl fun a hS => ?_
                    refine wn hS rfl rfl rfl hb3067 rfl rfl fun a hS => ?_
                    refine wn hS rfl rfl rfl hb3067 rfl rfl fun a hS => ?_
                    refine wg hS rfl rfl rfl hb3065 (ky (v := .bool true) hS (y_pickt hS rfl hb3067 rfl) rfl rfl fun a hS => ?_)
                    refine wl rfl (ky (v := .bool true) hS (y_pickt hS rfl hb3065 rfl) rfl rfl fun a hS => ?_)
                    refine wl rfl (ky (v := .bool true) hS (y_move hS rfl) rfl rfl fun a hS => ?_)
                    refine wn hS rfl rfl rfl rfl rfl rfl fun a hS => ?_
                    refine wn hS rfl rfl rfl rfl rfl rfl fun a hS => ?_
                    refine wn hS rfl rfl rfl rfl rfl rfl fun a hS => ?_
                    refine wn hS rfl rfl rfl rfl rfl rfl fun a hS => ?_
                    refine wnu hS rfl rfl rfl rfl rfl fun a hS => ?_
                    refine wnu hS rfl rfl rfl rfl rfl fun a hS => ?_
                    refine wnu hS rfl rfl rfl rfl rfl fun a hS => ?_
                    refine wnu hS rfl rfl rfl rfl rfl fun a hS => ?_
                    refine wnu hS rfl rfl rfl rfl rfl fun a hS => ?_
                    refine wnu hS rfl rfl rfl rfl rfl fun a hS => ?_
                    refine wnu hS rfl rfl rfl rfl rfl fun a hS => ?_
                    refine wnu hS rfl rfl rfl rfl rfl fun a hS => ?_
                    refine wnu hS rfl rfl rfl rfl rfl fun a hS => ?_
                    refine wnu hS rfl rfl rfl rfl rfl fun a hS => ?_
                    refine wnu hS rfl rfl rfl rfl rfl fun a hS => ?_
                    refine wnu hS rfl rfl rfl rfl rfl fun a hS => ?_
                    refine wnu hS rfl rfl rfl rfl rfl fun a hS => ?_
                    refine wnu hS rfl rfl rfl rfl rfl fun a hS => ?_
                    refine wnu hS rfl rfl rfl rfl rfl fun a hS => ?_
                    refine wnu hS rfl rfl rfl rfl rfl fun a hS => ?_
                    refine wnu hS rfl rfl rfl rfl rfl fun a hS => ?_
                    refine wnu hS rfl rfl rfl rfl rfl fun a hS => ?_
                    refine wn hS rfl rfl rfl rfl rfl rfl fun a hS => ?_
                    refine wl rfl (ky (v := .bool true) hS (y_pickt hS rfl rfl rfl) rfl rfl fun a hS => ?_)
                    refine wpList_nil ?_
                    try simp only [Exit.then, Exit.inBlock, ↓reduceIte, Nat.reduceEqDiff]
                    exact ⟨true, (hS.meet [] (by decide) ⟨rfl, rfl, rfl, rfl, rfl, trivial⟩ trivial ⟨⟨0, rfl⟩, trivial⟩), hM⟩
                  · replace hM := cf hb3067 hM
                    refine wg hS rfl rfl rfl hb3067 (ky (v := .pointer (some ⟨b2964, 0 + 3, none⟩)) hS (y_fld hS rfl fl53_3) rfl rfl fun a hS => ?_)
                    refine wg hS rfl rfl rfl hb3067 (ky (v := .int .i64 e2957.C) hS (y_load hS rfl ty3 0 rfl id (us := [.int .i64 e2957.C]) rfl rfl (fun _ => rfl)) rfl rfl fun a hS => ?_)
                    refine wg hS rfl rfl rfl hb3067 (ky (v := .bool (decide ((65535 : Int) < e2957.C))) hS (y_int hS rfl rfl rfl) rfl rfl fun a hS => ?_)
                    refine wg hS rfl rfl rfl hb3065 (ky (v := .bool (decide ((65535 : Int) < e2957.C))) hS (y_pickf hS rfl hb3067 rfl) rfl rfl fun a hS => ?_)
                    refine wl rfl (ky (v := .bool (decide ((65535 : Int) < e2957.C))) hS (y_pickt hS rfl hb3065 rfl) rfl rfl fun a hS => ?_)
                    refine wl rfl (ky (v := .bool (decide ((65535 : Int) < e2957.C))) hS (y_move hS rfl) rfl rfl fun a hS => ?_)
                    rcases bool2 (decide ((65535 : Int) < e2957.C)) with hb3068 | hb3068
                    · replace hM := ct hb3068 hM
                      refine wn hS rfl rfl rfl hb3068 rfl rfl fun a hS => ?_
                      refine wn hS rfl rfl rfl hb3068 rfl rfl fun a hS => ?_
                      refine wn hS rfl rfl rfl hb3068 rfl rfl fun a hS => ?_
                      refine wn hS rfl rfl rfl hb3068 rfl rfl fun a hS => ?_
                      refine wnu hS rfl rfl rfl rfl rfl fun a hS => ?_
                      refine wnu hS rfl rfl rfl rfl rfl fun a hS => ?_
                      refine wnu hS rfl rfl rfl rfl rfl fun a hS => ?_
                      refine wnu hS rfl rfl rfl rfl rfl fun a hS => ?_
                      refine wnu hS rfl rfl rfl rfl rfl fun a hS => ?_
                      refine wnu hS rfl rfl rfl rfl rfl fun a hS => ?_
                      refine wnu hS rfl rfl rfl rfl rfl fun a hS => ?_
                      refine wnu hS rfl rfl rfl rfl rfl fun a hS => ?_
                      refine wnu hS rfl rfl rfl rfl rfl fun a hS => ?_
                      refine wnu hS rfl rfl rfl rfl rfl fun a hS => ?_
                      refine wnu hS rfl rfl rfl rfl rfl fun a hS => ?_
                      refine wnu hS rfl rfl rfl rfl rfl fun a hS => ?_
                      refine wnu hS rfl rfl rfl rfl rfl fun a hS => ?_
                      refine wnu hS rfl rfl rfl rfl rfl fun a hS => ?_
                      refine wnu hS rfl rfl rfl rfl rfl fun a hS => ?_
                      refine wnu hS rfl rfl rfl rfl rfl fun a hS => ?_
                      refine wnu hS rfl rfl rfl rfl rfl fun a hS => ?_
                      refine wnu hS rfl rfl rfl rfl rfl fun a hS => ?_
                      refine wn hS rfl rfl rfl hb3068 rfl rfl fun a hS => ?_
                      refine wl rfl (ky (v := .bool true) hS (y_pickt hS rfl hb3068 rfl) rfl rfl fun a hS => ?_)
                      refine wpList_nil ?_
                      try simp only [Exit.then, Exit.inBlock, ↓reduceIte, Nat.reduceEqDiff]
                      exact ⟨true, (hS.meet [] (by decide) ⟨rfl, rfl, rfl, rfl, rfl, trivial⟩ trivial ⟨⟨0, rfl⟩, trivial⟩), hM⟩
                    · replace hM := cf hb3068 hM
                      refine wg hS rfl rfl rfl hb3068 (ky (v := .pointer (some ⟨b2964, 0 + 0, none⟩)) hS (y_fld hS rfl fl53_0) rfl rfl fun a hS => ?_)
                      refine wg hS rfl rfl rfl hb3068 (ky (v := .bool e2957.Ring) hS (y_load hS rfl ty4 0 rfl id (us := [.bool e2957.Ring]) rfl rfl (fun _ => rfl)) rfl rfl fun a hS => ?_)
                      refine wg hS rfl rfl rfl hb3068 (ky (v := .bool (!(e2957.Ring))) hS (y_not hS rfl) rfl rfl fun a hS => ?_)
                      refine wg hS rfl rfl rfl hb3068 (ky (v := .bool (!(e2957.Ring))) hS (y_move hS rfl) rfl rfl fun a hS => ?_)
                      refine wn hS rfl rfl rfl (nt hb3065) rfl rfl fun a hS => ?_
                      refine wn hS rfl rfl rfl (nt hb3065) rfl rfl fun a hS => ?_
                      refine wn hS rfl rfl rfl (nt hb3065) rfl rfl fun a hS => ?_
                      refine wn hS rfl rfl rfl (nt hb3065) rfl rfl fun a hS => ?_
                      refine wnu hS rfl rfl rfl rfl rfl fun a hS => ?_
                      refine wnu hS rfl rfl rfl rfl rfl fun a hS => ?_
                      refine wnu hS rfl rfl rfl rfl rfl fun a hS => ?_
                      refine wn hS rfl rfl rfl (nt hb3065) rfl rfl fun a hS => ?_
                      refine wn hS rfl rfl rfl (nt hb3065) rfl rfl fun a hS => ?_
                      refine wnu hS rfl rfl rfl rfl rfl fun a hS => ?_
                      refine wnu hS rfl rfl rfl rfl rfl fun a hS => ?_
                      refine wnu hS rfl rfl rfl rfl rfl fun a hS => ?_
                      refine wn hS rfl rfl rfl (nt hb3065) rfl rfl fun a hS => ?_
                      refine wn hS rfl rfl rfl (nt hb3065) rfl rfl fun a hS => ?_
                      refine wnu hS rfl rfl rfl rfl rfl fun a hS => ?_
                      refine wnu hS rfl rfl rfl rfl rfl fun a hS => ?_
                      refine wnu hS rfl rfl rfl rfl rfl fun a hS => ?_
                      refine wn hS rfl rfl rfl (nt hb3065) rfl rfl fun a hS => ?_
                      refine wg hS rfl rfl rfl hb3068 (ky (v := .bool false) hS (y_pickf hS rfl (nt hb3065) rfl) rfl rfl fun a hS => ?_)
                      refine wl rfl (ky (v := .bool false) hS (y_pickf hS rfl hb3068 rfl) rfl rfl fun a hS => ?_)
                      refine wpList_nil ?_
                      try simp only [Exit.then, Exit.inBlock, ↓reduceIte, Nat.reduceEqDiff]
                      exact ⟨false, (hS.meet [] (by decide) ⟨rfl, rfl, rfl, rfl, rfl, trivial⟩ trivial ⟨⟨0, rfl⟩, trivial⟩), hM⟩
              · replace hM := cf hb3065 hM
                refine wn hS rfl rfl rfl hb3065 rfl rfl fun a hS => ?_
                refine wn hS rfl rfl rfl hb3065 rfl rfl fun a hS => ?_
                refine wn hS rfl rfl rfl hb3065 rfl rfl fun a hS => ?_
                refine wn hS rfl rfl rfl hb3065 rfl rfl fun a hS => ?_
                refine wnu hS rfl rfl rfl rfl rfl fun a hS => ?_
                refine wnu hS rfl rfl rfl rfl rfl fun a hS => ?_
                refine wnu hS rfl rfl rfl rfl rfl fun a hS => ?_
                refine wn hS rfl rfl rfl hb3065 rfl rfl fun a hS => ?_
                refine wn hS rfl rfl rfl hb3065 rfl rfl fun a hS => ?_
                refine wnu hS rfl rfl rfl rfl rfl fun a hS => ?_
                refine wnu hS rfl rfl rfl rfl rfl fun a hS => ?_
                refine wnu hS rfl rfl rfl rfl rfl fun a hS => ?_
                refine wn hS rfl rfl rfl hb3065 rfl rfl fun a hS => ?_
                refine wl rfl (ky (v := .bool false) hS (y_pickf hS rfl hb3065 rfl) rfl rfl fun a hS => ?_)
                refine wl rfl (ky (v := .bool false) hS (y_move hS rfl) rfl rfl fun a hS => ?_)
                refine wg hS rfl rfl rfl rfl (ky (v := .pointer (some ⟨b2964, 0 + 0, none⟩)) hS (y_fld hS rfl fl53_0) rfl rfl fun a hS => ?_)
                refine wg hS rfl rfl rfl rfl (ky (v := .bool e2957.Ring) hS (y_load hS rfl ty4 0 rfl id (us := [.bool e2957.Ring]) rfl rfl (fun _ => rfl)) rfl rfl fun a hS => ?_)
                refine wg hS rfl rfl rfl rfl (ky (v := .bool (!(e2957.Ring))) hS (y_not hS rfl) rfl rfl fun a hS => ?_)
                refine wg hS rfl rfl rfl rfl (ky (v := .bool (!(e2957.Ring))) hS (y_move hS rfl) rfl rfl fun a hS => ?_)
                refine wg hS rfl rfl rfl (nf hb3065) (ky (v := .pointer (some ⟨b2964, 0 + 2, none⟩)) hS (y_fld hS rfl fl53_2) rfl rfl fun a hS => ?_)
                refine wg hS rfl rfl rfl (nf hb3065) (ky (v := .int .i64 e2957.Final) hS (y_load hS rfl ty3 0 rfl id (us := [.int .i64 e2957.Final]) rfl rfl (fun _ => rfl)) rfl rfl fun a hS => ?_)
                refine wg hS rfl rfl rfl (nf hb3065) (ky (v := .bool (decide ((e2957.Final : Int) < 1))) hS (y_int hS rfl rfl rfl) rfl rfl fun a hS => ?_)
                refine wg hS rfl rfl rfl (nf hb3065) (ky (v := .bool (decide ((e2957.Final : Int) < 1))) hS (y_move hS rfl) rfl rfl fun a hS => ?_)
                rcases bool2 (decide ((e2957.Final : Int) < 1)) with hb3069 | hb3069
                · replace hM := ct hb3069 hM
                  refine wn hS rfl rfl rfl hb3069 rfl rfl fun a hS => ?_
                  refine wn hS rfl rfl rfl hb3069 rfl rfl fun a hS => ?_
                  refine wn hS rfl rfl rfl hb3069 rfl rfl fun a hS => ?_
                  refine wg hS rfl rfl rfl (nf hb3065) (ky (v := .bool true) hS (y_pickt hS rfl hb3069 rfl) rfl rfl fun a hS => ?_)
                  refine wg hS rfl rfl rfl (nf hb3065) (ky (v := .bool true) hS (y_move hS rfl) rfl rfl fun a hS => ?_)
                  refine wn hS rfl rfl rfl rfl rfl rfl fun a hS => ?_
                  refine wn hS rfl rfl rfl rfl rfl rfl fun a hS => ?_
                  refine wn hS rfl rfl rfl rfl rfl rfl fun a hS => ?_
                  refine wg hS rfl rfl rfl (nf hb3065) (ky (v := .bool true) hS (y_pickt hS rfl rfl rfl) rfl rfl fun a hS => ?_)
                  refine wg hS rfl rfl rfl (nf hb3065) (ky (v := .bool true) hS (y_move hS rfl) rfl rfl fun a hS => ?_)
                  refine wn hS rfl rfl rfl rfl rfl rfl fun a hS => ?_
                  refine wn hS rfl rfl rfl rfl rfl rfl fun a hS => ?_
                  refine wn hS rfl rfl rfl rfl rfl rfl fun a hS => ?_
                  refine wg hS rfl rfl rfl (nf hb3065) (ky (v := .bool true) hS (y_pickt hS rfl rfl rfl) rfl rfl fun a hS => ?_)
                  refine wg hS rfl rfl rfl rfl (ky (v := .bool true) hS (y_pickt hS rfl (nf hb3065) rfl) rfl rfl fun a hS => ?_)
                  refine wl rfl (ky (v := .bool true) hS (y_pickf hS rfl rfl rfl) rfl rfl fun a hS => ?_)
                  refine wpList_nil ?_
                  try simp only [Exit.then, Exit.inBlock, ↓reduceIte, Nat.reduceEqDiff]
                  exact ⟨true, (hS.meet [] (by decide) ⟨rfl, rfl, rfl, rfl, rfl, trivial⟩ trivial ⟨⟨0, rfl⟩, trivial⟩), hM⟩
                · replace hM := cf hb3069 hM
                  refine wg hS rfl rfl rfl hb3069 (ky (v := .pointer (some ⟨b2964, 0 + 2, none⟩)) hS (y_fld hS rfl fl53_2) rfl rfl fun a hS => ?_)
                  refine wg hS rfl rfl rfl hb3069 (ky (v := .int .i64 e2957.Final) hS (y_load hS rfl ty3 0 rfl id (us := [.int .i64 e2957.Final]) rfl rfl (fun _ => rfl)) rfl rfl fun a hS => ?_)
                  refine wg hS rfl rfl rfl hb3069 (ky (v := .bool (decide ((4 : Int) < e2957.Final))) hS (y_int hS rfl rfl rfl) rfl rfl fun a hS => ?_)
                  refine wg hS rfl rfl rfl (nf hb3065) (ky (v := .bool (decide ((4 : Int) < e2957.Final))) hS (y_pickf hS rfl hb3069 rfl) rfl rfl fun a hS => ?_)
                  refine wg hS rfl rfl rfl (nf hb3065) (ky (v := .bool (decide ((4 : Int) < e2957.Final))) hS (y_move hS rfl) rfl rfl fun a hS => ?_)
                  rcases bool2 (decide ((4 : Int) < e2957.Final)) with hb3070 | hb3070
                  · replace hM := ct hb3070 hM
                    refine wn hS rfl rfl rfl hb3070 rfl rfl fun a hS => ?_
                    refine wn hS rfl rfl rfl hb3070 rfl rfl fun a hS => ?_
                    refine wn hS rfl rfl rfl hb3070 rfl rfl fun a hS => ?_
                    refine wg hS rfl rfl rfl (nf hb3065) (ky (v := .bool true) hS (y_pickt hS rfl hb3070 rfl) rfl rfl fun a hS => ?_)
                    refine wg hS rfl rfl rfl (nf hb3065) (ky (v := .bool true) hS (y_move hS rfl) rfl rfl fun a hS => ?_)
                    refine wn hS rfl rfl rfl rfl rfl rfl fun a hS => ?_
                    refine wn hS rfl rfl rfl rfl rfl rfl fun a hS => ?_
                    refine wn hS rfl rfl rfl rfl rfl rfl fun a hS => ?_
                    refine wg hS rfl rfl rfl (nf hb3065) (ky (v := .bool true) hS (y_pickt hS rfl rfl rfl) rfl rfl fun a hS => ?_)
                    refine wg hS rfl rfl rfl rfl (ky (v := .bool true) hS (y_pickt hS rfl (nf hb3065) rfl) rfl rfl fun a hS => ?_)
                    refine wl rfl (ky (v := .bool true) hS (y_pickf hS rfl rfl rfl) rfl rfl fun a hS => ?_)
                    refine wpList_nil ?_
                    try simp only [Exit.then, Exit.inBlock, ↓reduceIte, Nat.reduceEqDiff]
                    exact ⟨true, (hS.meet [] (by decide) ⟨rfl, rfl, rfl, rfl, rfl, trivial⟩ trivial ⟨⟨0, rfl⟩, trivial⟩), hM⟩
                  · replace hM := cf hb3070 hM
                    refine wg hS rfl rfl rfl hb3070 (ky (v := .pointer (some ⟨b2964, 0 + 3, none⟩)) hS (y_fld hS rfl fl53_3) rfl rfl fun a hS => ?_)
                    refine wg hS rfl rfl rfl hb3070 (ky (v := .int .i64 e2957.C) hS (y_load hS rfl ty3 0 rfl id (us := [.int .i64 e2957.C]) rfl rfl (fun _ => rfl)) rfl rfl fun a hS => ?_)
                    refine wg hS rfl rfl rfl hb3070 (ky (v := .bool (decide ((e2957.C : Int) < 0))) hS (y_int hS rfl rfl rfl) rfl rfl fun a hS => ?_)
                    refine wg hS rfl rfl rfl (nf hb3065) (ky (v := .bool (decide ((e2957.C : Int) < 0))) hS (y_pickf hS rfl hb3070 rfl) rfl rfl fun a hS => ?_)
                    refine wg hS rfl rfl rfl (nf hb3065) (ky (v := .bool (decide ((e2957.C : Int) < 0))) hS (y_move hS rfl) rfl rfl fun a hS => ?_)
                    rcases bool2 (decide ((e2957.C : Int) < 0)) with hb3071 | hb3071
                    · replace hM := ct hb3071 hM
                      refine wn hS rfl rfl rfl hb3071 rfl rfl fun a hS => ?_
                      refine wn hS rfl rfl rfl hb3071 rfl rfl fun a hS => ?_
                      refine wn hS rfl rfl rfl hb3071 rfl rfl fun a hS => ?_
                      refine wg hS rfl rfl rfl (nf hb3065) (ky (v := .bool true) hS (y_pickt hS rfl hb3071 rfl) rfl rfl fun a hS => ?_)
                      refine wg hS rfl rfl rfl rfl (ky (v := .bool true) hS (y_pickt hS rfl (nf hb3065) rfl) rfl rfl fun a hS => ?_)
                      refine wl rfl (ky (v := .bool true) hS (y_pickf hS rfl rfl rfl) rfl rfl fun a hS => ?_)
                      refine wpList_nil ?_
                      try simp only [Exit.then, Exit.inBlock, ↓reduceIte, Nat.reduceEqDiff]
                      exact ⟨true, (hS.meet [] (by decide) ⟨rfl, rfl, rfl, rfl, rfl, trivial⟩ trivial ⟨⟨0, rfl⟩, trivial⟩), hM⟩
                    · replace hM := cf hb3071 hM
                      refine wg hS rfl rfl rfl hb3071 (ky (v := .pointer (some ⟨b2964, 0 + 3, none⟩)) hS (y_fld hS rfl fl53_3) rfl rfl fun a hS => ?_)
                      refine wg hS rfl rfl rfl hb3071 (ky (v := .int .i64 e2957.C) hS (y_load hS rfl ty3 0 rfl id (us := [.int .i64 e2957.C]) rfl rfl (fun _ => rfl)) rfl rfl fun a hS => ?_)
                      refine wg hS rfl rfl rfl hb3071 (ky (v := .bool (decide ((999 : Int) < e2957.C))) hS (y_int hS rfl rfl rfl) rfl rfl fun a hS => ?_)
                      refine wg hS rfl rfl rfl (nf hb3065) (ky (v := .bool (decide ((999 : Int) < e2957.C))) hS (y_pickf hS rfl hb3071 rfl) rfl rfl fun a hS => ?_)
                      refine wg hS rfl rfl rfl rfl (ky (v := .bool (decide ((999 : Int) < e2957.C))) hS (y_pickt hS rfl (nf hb3065) rfl) rfl rfl fun a hS => ?_)
                      refine wl rfl (ky (v := .bool (decide ((999 : Int) < e2957.C))) hS (y_pickf hS rfl rfl rfl) rfl rfl fun a hS => ?_)
                      refine wpList_nil ?_
                      try simp only [Exit.then, Exit.inBlock, ↓reduceIte, Nat.reduceEqDiff]
                      exact ⟨(decide ((999 : Int) < e2957.C)), (hS.meet [] (by decide) ⟨rfl, rfl, rfl, rfl, rfl, trivial⟩ trivial ⟨⟨0, rfl⟩, trivial⟩), hM⟩
            · rintro a w ⟨g3063, hS, hM⟩
              unfold ref24_Valid_j3 at hM
              rcases bool2 (g3063) with hb3064 | hb3064
              · replace hM := ct hb3064 hM
                refine c_t hS rfl hb3064 ?_
                refine wp_seq_k fun K440 hK440 => ?_
                refine r_list ?_
                refine wl rfl (ky (v := .bool false) hS (y_assign hS rfl) rfl rfl fun a hS => ?_)
                refine wpList_nil ?_
                try simp only [Exit.then, Exit.inBlock, ↓reduceIte, Nat.reduceEqDiff]
                refine hK440 _ _ ?_
                refine wp_ret ?_
                injection hM with hM
                subst hM
                have hr := hf1 _ rfl
                subst hr
                replace hMo1 := el_out hMo1
                have hM := hMo1
                injection hM with hM
                subst hM
                try simp only [Exit.then, Exit.inBlock, ↓reduceIte, Nat.reduceEqDiff]
                refine ret_ok hS Tryd.results31 (res_tmp hS rfl res_nil) ?_
                exact rfl
              · replace hM := cf hb3064 hM
                refine c_f hS rfl hb3064 ?_
                refine wp_skip ?_
                try simp only [Exit.then, Exit.inBlock, ↓reduceIte, Nat.reduceEqDiff]
                exact ⟨(hS.meet [] (by decide) ⟨rfl, rfl, rfl, rfl, trivial⟩ trivial ⟨⟨0, rfl⟩, trivial⟩), hM⟩
      · rintro a w ⟨hS, hM⟩
        unfold ref24_Valid_j2 at hM
        refine r_list ?_
        refine wl rfl (ky (v := .int .i64 (IntKind.i64.wrap (g2365 + 1))) hS (y_int hS rfl rfl rfl) rfl rfl fun a hS => ?_)
        refine wl rfl (ky (v := .int .i64 (IntKind.i64.wrap (g2365 + 1))) hS (y_move hS rfl) rfl rfl fun a hS => ?_)
        refine wpList_nil ?_
        try simp only [Exit.then, Exit.inBlock, ↓reduceIte, Nat.reduceEqDiff]
        exact ⟨IntKind.i64.wrap (g2365 + 1), (Option.some.inj hM).symm, (IntKind.i64.wrap (g2365 + 1)), rfl, (hS.meet [] (by decide) ⟨rfl, rfl, rfl, rfl, trivial⟩ trivial ⟨⟨0, rfl⟩, trivial⟩)⟩
    · replace hM := cf hb2760 hM
      refine c_f hS rfl hb2760 ?_
      refine wp_exit ?_
      try simp only [Exit.then, Exit.inBlock, ↓reduceIte, Nat.reduceEqDiff]
      injection hM with hM
      subst hM
      have hr := hf1 _ rfl
      subst hr
      replace hMo1 := el_go hMo1
      have hM : ref24_Valid_j1 rules_ = some y := hMo1
      exact ⟨(hS.meet [] (by decide) ⟨rfl, trivial⟩ trivial ⟨⟨0, rfl⟩, trivial⟩), hM⟩
  · rintro a w ⟨hS, hM⟩
    unfold ref24_Valid_j1 at hM
    refine wp_seq_k fun K282 hK282 => ?_
    refine r_list ?_
    refine wl rfl (ky (v := v1) hS (y_move hS rfl) rfl rfl fun a hS => ?_)
    refine wl rfl (ky (v := .int .i64 (rules_.length : Int)) hS (y_len (R := R_RuleD) (xs := rules_) hS sl49 rfl 0 rfl) rfl rfl fun a hS => ?_)
    refine wl rfl (ky (v := .bool (decide (((rules_.length : Int) : Int) ≤ 24))) hS (y_int hS rfl rfl rfl) rfl rfl fun a hS => ?_)
    refine wl rfl (ky (v := .bool (decide (((rules_.length : Int) : Int) ≤ 24))) hS (y_assign hS rfl) rfl rfl fun a hS => ?_)
    refine wpList_nil ?_
    try simp only [Exit.then, Exit.inBlock, ↓reduceIte, Nat.reduceEqDiff]
    refine hK282 _ _ ?_
    refine wp_ret ?_
    injection hM with hM
    subst hM
    try simp only [Exit.then, Exit.inBlock, ↓reduceIte, Nat.reduceEqDiff]
    refine ret_ok hS Tryd.results31 (res_tmp hS rfl res_nil) ?_
    exact rfl

noncomputable def ref24_Value (s_0 : ByteArray) : Option Int := (ref23_Decimal s_0).bind fun u6 => cond (decide ((u6 : Int) < 0)) (some (0)) (cond (decide ((65535 : Int) < u6)) (some (0)) (some (u6)))
set_option maxRecDepth 100000 in
set_option maxHeartbeats 4000000 in
theorem ref24_Value_c (T : Nat → Prop) (W0 : World) (hT : ∀ k, T k → k < W0.heap.size) (s_0 : ByteArray) (y : Int) (hM : ref24_Value s_0 = some y) : Rets Tryd.prog No 40 [.string s_0] W0 (fun v w' => v = .int .i64 y) := by
  refine enter (c := _) Tryd.func40 rfl T 13 Tryd.ntmps40 hT rfl fun a hS => ?_
  unfold ref24_Value at hM
  refine wp_seq_k fun K8 hK8 => ?_
  refine r_list ?_
  refine wl rfl (ky (v := .int .i64 0) hS (y_assign hS rfl) rfl rfl fun a hS => ?_)
  refine wpList_nil ?_
  try simp only [Exit.then, Exit.inBlock, ↓reduceIte, Nat.reduceEqDiff]
  refine hK8 _ _ ?_
  refine wp_seq_k fun K9 hK9 => ?_
  refine r_list ?_
  refine wl rfl (ky (v := .string s_0) hS (y_move hS rfl) rfl rfl fun a hS => ?_)
  obtain ⟨u6, hu6, hM⟩ := bd hM
  refine wl rfl (k_call hS ci61 rfl rfl (ref23_Decimal_c _ _ hS.dlt s_0 _ hu6) fun _ w hR a hk hA => ?_)
  have he := Eq.symm hR
  subst he
  have hS := hA [] (fun r hr => by cases hr) List.Pairwise.nil
  refine wl rfl (ky (v := .int .i64 u6) hS (y_assign hS rfl) rfl rfl fun a hS => ?_)
  refine wpList_nil ?_
  try simp only [Exit.then, Exit.inBlock, ↓reduceIte, Nat.reduceEqDiff]
  refine hK9 _ _ ?_
  refine wp_seq_k fun K10 hK10 => ?_
  refine wp_seq_k fun K11 hK11 => ?_
  refine r_list ?_
  refine wl rfl (ky (v := .int .i64 u6) hS (y_move hS rfl) rfl rfl fun a hS => ?_)
  refine wl rfl (ky (v := .bool (decide ((u6 : Int) < 0))) hS (y_int hS rfl rfl rfl) rfl rfl fun a hS => ?_)
  refine wl rfl (ky (v := .bool (decide ((u6 : Int) < 0))) hS (y_move hS rfl) rfl rfl fun a hS => ?_)
  rcases bool2 (decide ((u6 : Int) < 0)) with hb9 | hb9
  · replace hM := ct hb9 hM
    refine wn hS rfl rfl rfl hb9 rfl rfl fun a hS => ?_
    refine wn hS rfl rfl rfl hb9 rfl rfl fun a hS => ?_
    refine wl rfl (ky (v := .bool true) hS (y_pickt hS rfl hb9 rfl) rfl rfl fun a hS => ?_)
    refine wpList_nil ?_
    try simp only [Exit.then, Exit.inBlock, ↓reduceIte, Nat.reduceEqDiff]
    refine hK11 _ _ ?_
    refine c_t hS rfl rfl ?_
    refine wp_seq_k fun K12 hK12 => ?_
    refine r_list ?_
    refine wl rfl (ky (v := .int .i64 0) hS (y_assign hS rfl) rfl rfl fun a hS => ?_)
    refine wpList_nil ?_
    try simp only [Exit.then, Exit.inBlock, ↓reduceIte, Nat.reduceEqDiff]
    refine hK12 _ _ ?_
    refine wp_ret ?_
    injection hM with hM
    subst hM
    try simp only [Exit.then, Exit.inBlock, ↓reduceIte, Nat.reduceEqDiff]
    refine ret_ok hS Tryd.results40 (res_tmp hS rfl res_nil) ?_
    exact rfl
  · replace hM := cf hb9 hM
    refine wg hS rfl rfl rfl hb9 (ky (v := .int .i64 u6) hS (y_move hS rfl) rfl rfl fun a hS => ?_)
    refine wg hS rfl rfl rfl hb9 (ky (v := .bool (decide ((65535 : Int) < u6))) hS (y_int hS rfl rfl rfl) rfl rfl fun a hS => ?_)
    refine wl rfl (ky (v := .bool (decide ((65535 : Int) < u6))) hS (y_pickf hS rfl hb9 rfl) rfl rfl fun a hS => ?_)
    refine wpList_nil ?_
    try simp only [Exit.then, Exit.inBlock, ↓reduceIte, Nat.reduceEqDiff]
    refine hK11 _ _ ?_
    rcases bool2 (decide ((65535 : Int) < u6)) with hb10 | hb10
    · replace hM := ct hb10 hM
      refine c_t hS rfl hb10 ?_
      refine wp_seq_k fun K13 hK13 => ?_
      refine r_list ?_
      refine wl rfl (ky (v := .int .i64 0) hS (y_assign hS rfl) rfl rfl fun a hS => ?_)
      refine wpList_nil ?_
      try simp only [Exit.then, Exit.inBlock, ↓reduceIte, Nat.reduceEqDiff]
      refine hK13 _ _ ?_
      refine wp_ret ?_
      injection hM with hM
      subst hM
      try simp only [Exit.then, Exit.inBlock, ↓reduceIte, Nat.reduceEqDiff]
      refine ret_ok hS Tryd.results40 (res_tmp hS rfl res_nil) ?_
      exact rfl
    · replace hM := cf hb10 hM
      refine c_f hS rfl hb10 ?_
      refine wp_skip ?_
      try simp only [Exit.then, Exit.inBlock, ↓reduceIte, Nat.reduceEqDiff]
      refine hK10 _ _ ?_
      refine wp_seq_k fun K14 hK14 => ?_
      refine r_list ?_
      refine wl rfl (ky (v := .int .i64 u6) hS (y_move hS rfl) rfl rfl fun a hS => ?_)
      refine wl rfl (ky (v := .int .i64 u6) hS (y_assign hS rfl) rfl rfl fun a hS => ?_)
      refine wpList_nil ?_
      try simp only [Exit.then, Exit.inBlock, ↓reduceIte, Nat.reduceEqDiff]
      refine hK14 _ _ ?_
      refine wp_ret ?_
      injection hM with hM
      subst hM
      try simp only [Exit.then, Exit.inBlock, ↓reduceIte, Nat.reduceEqDiff]
      refine ret_ok hS Tryd.results40 (res_tmp hS rfl res_nil) ?_
      exact rfl

noncomputable def ref24_final_j1 (sum85 : Int) (most86 : Int) (bits87 : Int) (r88 : Int) (r89 : Int) : Option Int := cond ((r88 : Int) == 1) (some (Int.tmod sum85 1000)) (cond ((r88 : Int) == 2) (some (Int.tmod (IntKind.i64.wrap (Int.tdiv sum85 2)) 1000)) (cond ((r88 : Int) == 3) (some (most86)) (cond ((r88 : Int) == 4) (some (Int.tmod sum85 2)) (some (bits87)))))
noncomputable def ref24_final_l2 (r_0 : RuleD) (answers_ : (List ByteArray)) (sum107 : Int) (most108 : Int) (bits109 : Int) (g110 : Int) : Option (Fl (Int × Int × Int × Int) (Int × Int × Int × Int × Int)) := cond (decide ((g110 : Int) < (answers_.length : Int))) ((getI answers_ g110).bind fun e125 => (ref24_Value e125).bind fun u131 => some (.go (IntKind.i64.wrap (sum107 + u131), max most108 u131, ibit .or .i64 bits109 u131, IntKind.i64.wrap (g110 + 1)))) (some (.out (sum107, most108, bits109, r_0.Final, r_0.C)))
noncomputable def ref24_final (r_0 : RuleD) (answers_ : (List ByteArray)) : Option Int := (loop (fun s : Int × Int × Int × Int => ref24_final_l2 r_0 answers_ s.1 s.2.1 s.2.2.1 s.2.2.2) (r_0.C, r_0.C, r_0.C, 0)).bind fun r => ref24_final_j1 r.1 r.2.1 r.2.2.1 r.2.2.2.1 r.2.2.2.2
set_option maxRecDepth 100000 in
set_option maxHeartbeats 4000000 in
theorem ref24_final_c (T : Nat → Prop) (W0 : World) (hT : ∀ k, T k → k < W0.heap.size) (r_0 : RuleD) (answers_ : (List ByteArray)) (v1 : Value) (v2 : Value) (hv1 : SlR R_AskD T W0 v1 r_0.Asks) (hv2 : SlR Rep.str T W0 v2 answers_) (y : Int) (hM : ref24_final r_0 answers_ = some y) : Rets Tryd.prog No 59 [.agg #[.bool r_0.Ring, v1, .int .i64 r_0.Final, .int .i64 r_0.C], v2] W0 (fun v w' => v = .int .i64 y) := by
  refine enter (c := _) Tryd.func59 rfl T 54 Tryd.ntmps59 hT rfl fun a hS => ?_
  replace hS := hS.fact (SlF R_AskD v1 r_0.Asks) (SlR.dn hv1)
  replace hS := hS.fact (SlF Rep.str v2 answers_) (SlR.dn hv2)
  unfold ref24_final at hM
  refine wp_seq_k fun K26 hK26 => ?_
  refine r_list ?_
  refine wl rfl (k_box hS rfl (cs := [.bool r_0.Ring, v1, .int .i64 r_0.Final, .int .i64 r_0.C]) rfl rfl fun b59 hnb61 a w hk hS => ?_)
  refine wl rfl (ky (v := .int .i64 0) hS (y_assign hS rfl) rfl rfl fun a hS => ?_)
  refine wpList_nil ?_
  try simp only [Exit.then, Exit.inBlock, ↓reduceIte, Nat.reduceEqDiff]
  refine hK26 _ _ ?_
  refine wp_seq_k fun K27 hK27 => ?_
  refine draws [] hS mixed rfl (fun c a d v w h => by cases d <;> exact h) fun w hQ hS => ?_
  refine dy 0 (v := .pointer (some ⟨b59, 0 + 3, none⟩)) rfl (by kernel_rfl) (by kernel_rfl) (by kernel_rfl) rfl hQ hS (y_fld hS rfl fl53_3) rfl rfl rfl fun a hS => ?_
  refine dy (l := []) 1 (v := .int .i64 r_0.C) rfl (by kernel_rfl) (by kernel_rfl) (by kernel_rfl) (by kernel_rfl) hQ hS (y_load hS rfl ty3 0 rfl eo_nil (us := [.int .i64 r_0.C]) rfl rfl (fun _ => rfl)) rfl rfl rfl fun a hS => ?_
  refine dy 2 (v := .pointer (some ⟨b59, 0 + 3, none⟩)) rfl (by kernel_rfl) (by kernel_rfl) (by kernel_rfl) rfl hQ hS (y_fld hS rfl fl53_3) rfl rfl rfl fun a hS => ?_
  refine dy (l := []) 3 (v := .int .i64 r_0.C) rfl (by kernel_rfl) (by kernel_rfl) (by kernel_rfl) (by kernel_rfl) hQ hS (y_load hS rfl ty3 0 rfl eo_nil (us := [.int .i64 r_0.C]) rfl rfl (fun _ => rfl)) rfl rfl rfl fun a hS => ?_
  refine dy 4 (v := .pointer (some ⟨b59, 0 + 3, none⟩)) rfl (by kernel_rfl) (by kernel_rfl) (by kernel_rfl) rfl hQ hS (y_fld hS rfl fl53_3) rfl rfl rfl fun a hS => ?_
  refine dy (l := []) 5 (v := .int .i64 r_0.C) rfl (by kernel_rfl) (by kernel_rfl) (by kernel_rfl) (by kernel_rfl) hQ hS (y_load hS rfl ty3 0 rfl eo_nil (us := [.int .i64 r_0.C]) rfl rfl (fun _ => rfl)) rfl rfl rfl fun a hS => ?_
  refine dy 6 (v := .int .i64 r_0.C) rfl (by kernel_rfl) (by kernel_rfl) (by kernel_rfl) rfl hQ hS (y_assign hS rfl) rfl rfl rfl fun a hS => ?_
  refine dy 7 (v := .int .i64 r_0.C) rfl (by kernel_rfl) (by kernel_rfl) (by kernel_rfl) rfl hQ hS (y_assign hS rfl) rfl rfl rfl fun a hS => ?_
  refine dy 8 (v := .int .i64 r_0.C) rfl (by kernel_rfl) (by kernel_rfl) (by kernel_rfl) rfl hQ hS (y_assign hS rfl) rfl rfl rfl fun a hS => ?_
  refine wpE_done (by kernel_rfl) ?_ _
  try simp only [Exit.then, Exit.inBlock, ↓reduceIte, Nat.reduceEqDiff]
  refine hK27 _ _ ?_
  refine seq_j (J := fun a w => ∃ (sum85 : Int) (most86 : Int) (bits87 : Int) (r88 : Int) (r89 : Int), St W0 No T 54 [(2, .pointer (some ⟨b59, 0, none⟩)), (5, .int .i64 sum85), (6, .int .i64 most86), (7, .int .i64 bits87)] [.box b59 [.bool r_0.Ring, v1, .int .i64 r88, .int .i64 r89] 53] [SlF R_AskD v1 r_0.Asks] a w ∧ ref24_final_j1 sum85 most86 bits87 r88 r89 = some y) ?_ ?_
  · skip
    refine wp_seq_k fun K45 hK45 => ?_
    refine r_list ?_
    refine wl rfl (ky (v := v2) hS (y_move hS rfl) rfl rfl fun a hS => ?_)
    refine wl rfl (ky (v := .int .i64 (answers_.length : Int)) hS (y_len (R := Rep.str) (xs := answers_) hS sl65 rfl 0 rfl) rfl rfl fun a hS => ?_)
    refine wl rfl (ky (v := .int .i64 0) hS (y_move hS rfl) rfl rfl fun a hS => ?_)
    refine wpList_nil ?_
    try simp only [Exit.then, Exit.inBlock, ↓reduceIte, Nat.reduceEqDiff]
    refine hK45 _ _ ?_
    refine wp_block ?_
    obtain ⟨r1, hl1, hMo1⟩ := bd hM
    refine wp_lp (fun s : Int × Int × Int × Int => ref24_final_l2 r_0 answers_ s.1 s.2.1 s.2.2.1 s.2.2.2) (fun s a w => ∃ (sum107 : Int) (most108 : Int) (bits109 : Int) (g110 : Int), (sum107, most108, bits109, g110) = s ∧ St W0 No T 54 [(2, .pointer (some ⟨b59, 0, none⟩)), (5, .int .i64 sum107), (6, .int .i64 most108), (7, .int .i64 bits109), (17, v2), (18, .int .i64 (answers_.length : Int)), (19, .int .i64 g110)] [.box b59 [.bool r_0.Ring, v1, .int .i64 r_0.Final, .int .i64 r_0.C] 53] [SlF Rep.str v2 answers_, SlF R_AskD v1 r_0.Asks] a w) hl1 ⟨r_0.C, r_0.C, r_0.C, 0, rfl, (hS.meet [0] (by decide) ⟨rfl, rfl, rfl, rfl, rfl, rfl, rfl, trivial⟩ ⟨rfl, trivial⟩ ⟨⟨0, rfl⟩, ⟨1, rfl⟩, trivial⟩)⟩ ?_
    rintro s a w f1 ⟨sum107, most108, bits109, g110, rfl, hS⟩ hM hf1
    have hM : ref24_final_l2 r_0 answers_ sum107 most108 bits109 g110 = some f1 := hM
    unfold ref24_final_l2 at hM
    refine wp_seq_k fun K56 hK56 => ?_
    refine r_list ?_
    refine wl rfl (ky (v := .bool (decide ((g110 : Int) < (answers_.length : Int)))) hS (y_int hS rfl rfl rfl) rfl rfl fun a hS => ?_)
    refine wpList_nil ?_
    try simp only [Exit.then, Exit.inBlock, ↓reduceIte, Nat.reduceEqDiff]
    refine hK56 _ _ ?_
    refine wp_seq_k fun K57 hK57 => ?_
    rcases bool2 (decide ((g110 : Int) < (answers_.length : Int))) with hb124 | hb124
    · replace hM := ct hb124 hM
      refine c_t hS rfl hb124 ?_
      refine wp_skip ?_
      try simp only [Exit.then, Exit.inBlock, ↓reduceIte, Nat.reduceEqDiff]
      refine hK57 _ _ ?_
      refine wp_seq_k fun K58 hK58 => ?_
      refine wp_block ?_
      refine wp_seq_k fun K59 hK59 => ?_
      refine r_list ?_
      obtain ⟨e125, he125, hM⟩ := bd hM
      refine wl rfl (k_index (R := Rep.str) hS sl65 ty9 rfl rfl 0 rfl he125 rfl fun b126 o127 cs129 hr128 a hS => ?_)
      obtain rfl := hr128
      refine wl rfl (ky (v := .string e125) hS (y_loadc (k := 0) hS ty9 0 rfl rfl (fun _ h => h.elim) (us := [.string e125]) rfl rfl (fun _ => rfl)) rfl rfl fun a hS => ?_)
      refine wl rfl (ky (v := .string e125) hS (y_assign hS rfl) rfl rfl fun a hS => ?_)
      refine wpList_nil ?_
      try simp only [Exit.then, Exit.inBlock, ↓reduceIte, Nat.reduceEqDiff]
      refine hK59 _ _ ?_
      refine wp_seq_k fun K60 hK60 => ?_
      refine r_list ?_
      refine wl rfl (ky (v := .string e125) hS (y_move hS rfl) rfl rfl fun a hS => ?_)
      obtain ⟨u131, hu131, hM⟩ := bd hM
      refine wl rfl (k_call hS ci40 rfl rfl (ref24_Value_c _ _ hS.dlt e125 _ hu131) fun _ w hR a hk hA => ?_)
      have he := Eq.symm hR
      subst he
      have hS := hA [] (fun r hr => by cases hr) List.Pairwise.nil
      refine wl rfl (ky (v := .int .i64 u131) hS (y_assign hS rfl) rfl rfl fun a hS => ?_)
      refine wpList_nil ?_
      try simp only [Exit.then, Exit.inBlock, ↓reduceIte, Nat.reduceEqDiff]
      refine hK60 _ _ ?_
      refine r_list ?_
      refine wl rfl (ky (v := .int .i64 sum107) hS (y_move hS rfl) rfl rfl fun a hS => ?_)
      refine wl rfl (ky (v := .int .i64 u131) hS (y_move hS rfl) rfl rfl fun a hS => ?_)
      refine wl rfl (ky (v := .int .i64 (IntKind.i64.wrap (sum107 + u131))) hS (y_int hS rfl rfl rfl) rfl rfl fun a hS => ?_)
      refine wl rfl (ky (v := .int .i64 most108) hS (y_move hS rfl) rfl rfl fun a hS => ?_)
      refine wl rfl (ky (v := .int .i64 u131) hS (y_move hS rfl) rfl rfl fun a hS => ?_)
      refine wl rfl (ky (v := .int .i64 (max most108 u131)) hS (y_max hS rfl rfl) rfl rfl fun a hS => ?_)
      refine wl rfl (ky (v := .int .i64 bits109) hS (y_move hS rfl) rfl rfl fun a hS => ?_)
      refine wl rfl (ky (v := .int .i64 u131) hS (y_move hS rfl) rfl rfl fun a hS => ?_)
      refine wl rfl (ky (v := .int .i64 (ibit .or .i64 bits109 u131)) hS (y_bits hS rfl rfl rfl) rfl rfl fun a hS => ?_)
      refine wl rfl (ky (v := .int .i64 (IntKind.i64.wrap (sum107 + u131))) hS (y_assign hS rfl) rfl rfl fun a hS => ?_)
      refine wl rfl (ky (v := .int .i64 (max most108 u131)) hS (y_assign hS rfl) rfl rfl fun a hS => ?_)
      refine wl rfl (ky (v := .int .i64 (ibit .or .i64 bits109 u131)) hS (y_assign hS rfl) rfl rfl fun a hS => ?_)
      refine wpList_nil ?_
      try simp only [Exit.then, Exit.inBlock, ↓reduceIte, Nat.reduceEqDiff]
      refine hK58 _ _ ?_
      refine r_list ?_
      refine wl rfl (ky (v := .int .i64 (IntKind.i64.wrap (g110 + 1))) hS (y_int hS rfl rfl rfl) rfl rfl fun a hS => ?_)
      refine wl rfl (ky (v := .int .i64 (IntKind.i64.wrap (g110 + 1))) hS (y_move hS rfl) rfl rfl fun a hS => ?_)
      refine wpList_nil ?_
      try simp only [Exit.then, Exit.inBlock, ↓reduceIte, Nat.reduceEqDiff]
      exact ⟨(IntKind.i64.wrap (sum107 + u131), max most108 u131, ibit .or .i64 bits109 u131, IntKind.i64.wrap (g110 + 1)), (Option.some.inj hM).symm, (IntKind.i64.wrap (sum107 + u131)), (max most108 u131), (ibit .or .i64 bits109 u131), (IntKind.i64.wrap (g110 + 1)), rfl, (hS.meet [0] (by decide) ⟨rfl, rfl, rfl, rfl, rfl, rfl, rfl, trivial⟩ ⟨rfl, trivial⟩ ⟨⟨1, rfl⟩, ⟨2, rfl⟩, trivial⟩)⟩
    · replace hM := cf hb124 hM
      refine c_f hS rfl hb124 ?_
      refine wp_exit ?_
      try simp only [Exit.then, Exit.inBlock, ↓reduceIte, Nat.reduceEqDiff]
      injection hM with hM
      subst hM
      have hr := hf1 _ rfl
      subst hr
      have hM : ref24_final_j1 sum107 most108 bits109 r_0.Final r_0.C = some y := hMo1
      exact ⟨sum107, most108, bits109, r_0.Final, r_0.C, (hS.meet [0] (by decide) ⟨rfl, rfl, rfl, rfl, trivial⟩ ⟨rfl, trivial⟩ ⟨⟨1, rfl⟩, trivial⟩), hM⟩
  · rintro a w ⟨sum85, most86, bits87, r88, r89, hS, hM⟩
    unfold ref24_final_j1 at hM
    refine wp_seq_k fun K34 hK34 => ?_
    refine wp_seq_k fun K35 hK35 => ?_
    refine r_list ?_
    refine wl rfl (ky (v := .pointer (some ⟨b59, 0 + 2, none⟩)) hS (y_fld hS rfl fl53_2) rfl rfl fun a hS => ?_)
    refine wl rfl (ky (v := .int .i64 r88) hS (y_load hS rfl ty3 0 rfl id (us := [.int .i64 r88]) rfl rfl (fun _ => rfl)) rfl rfl fun a hS => ?_)
    refine wpList_nil ?_
    try simp only [Exit.then, Exit.inBlock, ↓reduceIte, Nat.reduceEqDiff]
    refine hK35 _ _ ?_
    refine wp_block ?_
    refine wp_seq_k fun K36 hK36 => ?_
    refine r_list ?_
    refine wl rfl (ky (v := .bool ((r88 : Int) == 1)) hS (y_int hS rfl rfl rfl) rfl rfl fun a hS => ?_)
    refine wl rfl (ky (v := .bool ((r88 : Int) == 1)) hS (y_assign hS rfl) rfl rfl fun a hS => ?_)
    refine wpList_nil ?_
    try simp only [Exit.then, Exit.inBlock, ↓reduceIte, Nat.reduceEqDiff]
    refine hK36 _ _ ?_
    rcases bool2 ((r88 : Int) == 1) with hb90 | hb90
    · replace hM := ct hb90 hM
      refine c_t hS rfl hb90 ?_
      refine wp_seq_k fun K37 hK37 => ?_
      refine r_list ?_
      refine wl rfl (ky (v := .int .i64 sum85) hS (y_move hS rfl) rfl rfl fun a hS => ?_)
      refine wl rfl (ky (v := .int .i64 (Int.tmod sum85 1000)) hS (y_rem hS rfl rfl (by decide)) rfl rfl fun a hS => ?_)
      refine wl rfl (ky (v := .int .i64 (Int.tmod sum85 1000)) hS (y_assign hS rfl) rfl rfl fun a hS => ?_)
      refine wpList_nil ?_
      try simp only [Exit.then, Exit.inBlock, ↓reduceIte, Nat.reduceEqDiff]
      refine hK37 _ _ ?_
      refine wp_ret ?_
      injection hM with hM
      subst hM
      try simp only [Exit.then, Exit.inBlock, ↓reduceIte, Nat.reduceEqDiff]
      refine ret_ok hS Tryd.results59 (res_tmp hS rfl res_nil) ?_
      exact rfl
    · replace hM := cf hb90 hM
      refine c_f hS rfl hb90 ?_
      refine wp_seq_k fun K38 hK38 => ?_
      refine r_list ?_
      refine wl rfl (ky (v := .bool ((r88 : Int) == 2)) hS (y_int hS rfl rfl rfl) rfl rfl fun a hS => ?_)
      refine wl rfl (ky (v := .bool ((r88 : Int) == 2)) hS (y_assign hS rfl) rfl rfl fun a hS => ?_)
      refine wpList_nil ?_
      try simp only [Exit.then, Exit.inBlock, ↓reduceIte, Nat.reduceEqDiff]
      refine hK38 _ _ ?_
      rcases bool2 ((r88 : Int) == 2) with hb91 | hb91
      · replace hM := ct hb91 hM
        refine c_t hS rfl hb91 ?_
        refine wp_seq_k fun K39 hK39 => ?_
        refine r_list ?_
        refine wl rfl (ky (v := .int .i64 sum85) hS (y_move hS rfl) rfl rfl fun a hS => ?_)
        refine wl rfl (ky (v := .int .i64 (IntKind.i64.wrap (Int.tdiv sum85 2))) hS (y_quo hS rfl rfl (by decide)) rfl rfl fun a hS => ?_)
        refine wl rfl (ky (v := .int .i64 (Int.tmod (IntKind.i64.wrap (Int.tdiv sum85 2)) 1000)) hS (y_rem hS rfl rfl (by decide)) rfl rfl fun a hS => ?_)
        refine wl rfl (ky (v := .int .i64 (Int.tmod (IntKind.i64.wrap (Int.tdiv sum85 2)) 1000)) hS (y_assign hS rfl) rfl rfl fun a hS => ?_)
        refine wpList_nil ?_
        try simp only [Exit.then, Exit.inBlock, ↓reduceIte, Nat.reduceEqDiff]
        refine hK39 _ _ ?_
        refine wp_ret ?_
        injection hM with hM
        subst hM
        try simp only [Exit.then, Exit.inBlock, ↓reduceIte, Nat.reduceEqDiff]
        refine ret_ok hS Tryd.results59 (res_tmp hS rfl res_nil) ?_
        exact rfl
      · replace hM := cf hb91 hM
        refine c_f hS rfl hb91 ?_
        refine wp_seq_k fun K40 hK40 => ?_
        refine r_list ?_
        refine wl rfl (ky (v := .bool ((r88 : Int) == 3)) hS (y_int hS rfl rfl rfl) rfl rfl fun a hS => ?_)
        refine wl rfl (ky (v := .bool ((r88 : Int) == 3)) hS (y_assign hS rfl) rfl rfl fun a hS => ?_)
        refine wpList_nil ?_
        try simp only [Exit.then, Exit.inBlock, ↓reduceIte, Nat.reduceEqDiff]
        refine hK40 _ _ ?_
        rcases bool2 ((r88 : Int) == 3) with hb92 | hb92
        · replace hM := ct hb92 hM
          refine c_t hS rfl hb92 ?_
          refine wp_seq_k fun K41 hK41 => ?_
          refine r_list ?_
          refine wl rfl (ky (v := .int .i64 most86) hS (y_move hS rfl) rfl rfl fun a hS => ?_)
          refine wl rfl (ky (v := .int .i64 most86) hS (y_assign hS rfl) rfl rfl fun a hS => ?_)
          refine wpList_nil ?_
          try simp only [Exit.then, Exit.inBlock, ↓reduceIte, Nat.reduceEqDiff]
          refine hK41 _ _ ?_
          refine wp_ret ?_
          injection hM with hM
          subst hM
          try simp only [Exit.then, Exit.inBlock, ↓reduceIte, Nat.reduceEqDiff]
          refine ret_ok hS Tryd.results59 (res_tmp hS rfl res_nil) ?_
          exact rfl
        · replace hM := cf hb92 hM
          refine c_f hS rfl hb92 ?_
          refine wp_seq_k fun K42 hK42 => ?_
          refine r_list ?_
          refine wl rfl (ky (v := .bool ((r88 : Int) == 4)) hS (y_int hS rfl rfl rfl) rfl rfl fun a hS => ?_)
          refine wl rfl (ky (v := .bool ((r88 : Int) == 4)) hS (y_assign hS rfl) rfl rfl fun a hS => ?_)
          refine wpList_nil ?_
          try simp only [Exit.then, Exit.inBlock, ↓reduceIte, Nat.reduceEqDiff]
          refine hK42 _ _ ?_
          rcases bool2 ((r88 : Int) == 4) with hb93 | hb93
          · replace hM := ct hb93 hM
            refine c_t hS rfl hb93 ?_
            refine wp_seq_k fun K43 hK43 => ?_
            refine r_list ?_
            refine wl rfl (ky (v := .int .i64 sum85) hS (y_move hS rfl) rfl rfl fun a hS => ?_)
            refine wl rfl (ky (v := .int .i64 (Int.tmod sum85 2)) hS (y_rem hS rfl rfl (by decide)) rfl rfl fun a hS => ?_)
            refine wl rfl (ky (v := .int .i64 (Int.tmod sum85 2)) hS (y_assign hS rfl) rfl rfl fun a hS => ?_)
            refine wpList_nil ?_
            try simp only [Exit.then, Exit.inBlock, ↓reduceIte, Nat.reduceEqDiff]
            refine hK43 _ _ ?_
            refine wp_ret ?_
            injection hM with hM
            subst hM
            try simp only [Exit.then, Exit.inBlock, ↓reduceIte, Nat.reduceEqDiff]
            refine ret_ok hS Tryd.results59 (res_tmp hS rfl res_nil) ?_
            exact rfl
          · replace hM := cf hb93 hM
            refine c_f hS rfl hb93 ?_
            refine wp_skip ?_
            try simp only [Exit.then, Exit.inBlock, ↓reduceIte, Nat.reduceEqDiff]
            refine hK34 _ _ ?_
            refine wp_seq_k fun K44 hK44 => ?_
            refine r_list ?_
            refine wl rfl (ky (v := .int .i64 bits87) hS (y_move hS rfl) rfl rfl fun a hS => ?_)
            refine wl rfl (ky (v := .int .i64 bits87) hS (y_assign hS rfl) rfl rfl fun a hS => ?_)
            refine wpList_nil ?_
            try simp only [Exit.then, Exit.inBlock, ↓reduceIte, Nat.reduceEqDiff]
            refine hK44 _ _ ?_
            refine wp_ret ?_
            injection hM with hM
            subst hM
            try simp only [Exit.then, Exit.inBlock, ↓reduceIte, Nat.reduceEqDiff]
            refine ret_ok hS Tryd.results59 (res_tmp hS rfl res_nil) ?_
            exact rfl

noncomputable def ref24_Turn_j1 (rules_ : (List RuleD)) (e208 : AskD) (at249 : Int) : Option TurnD := cond e208.Cell ((ref23_Cell at249).bind fun u251 => some ((TurnD.mk false (ByteArray.mk #[]) u251))) ((ref23_Of rules_ at249).bind fun u253 => some ((TurnD.mk false (ByteArray.mk #[]) u253)))
noncomputable def ref24_Turn_j2 (rules_ : (List RuleD)) (e208 : AskD) (g275 : Bool) : Option TurnD := cond g275 (ref24_Turn_j1 rules_ e208 e208.Else) (ref24_Turn_j1 rules_ e208 e208.N)
noncomputable def ref24_Turn (rules_ : (List RuleD)) (k_1 : KeyD) (answers_ : (List ByteArray)) : Option TurnD := (ref23_Number k_1).bind fun u150 => cond (decide ((u150 : Int) < 0)) (some ((TurnD.mk true (ByteArray.mk #[]) (KeyD.mk 0 (ByteArray.mk #[]))))) (cond (decide (((rules_.length : Int) : Int) ≤ u150)) (some ((TurnD.mk true (ByteArray.mk #[]) (KeyD.mk 0 (ByteArray.mk #[]))))) ((ref23_Of rules_ u150).bind fun u166 => cond (!((u166.Kind : Int) == k_1.Kind && u166.Text.toList == k_1.Text.toList)) (some ((TurnD.mk true (ByteArray.mk #[]) (KeyD.mk 0 (ByteArray.mk #[]))))) ((getI rules_ u150).bind fun e169 => cond (decide (((e169.Asks.length : Int) : Int) ≤ (answers_.length : Int))) ((subI answers_ 0 (e169.Asks.length : Int)).bind fun l201 => (ref24_final e169 l201).bind fun u204 => (itoaM u204).bind fun u206 => some ((TurnD.mk true u206 (KeyD.mk 0 (ByteArray.mk #[]))))) ((getI e169.Asks (answers_.length : Int)).bind fun e208 => cond e208.Pick (cond (((answers_.length : Int) : Int) == 0) (ref24_Turn_j2 rules_ e208 true) ((getI answers_ (IntKind.i64.wrap ((answers_.length : Int) - 1))).bind fun e279 => (ref24_Value e279).bind fun u285 => ref24_Turn_j2 rules_ e208 ((Int.tmod u285 2 : Int) == 0))) (ref24_Turn_j2 rules_ e208 false)))))
set_option maxRecDepth 100000 in
set_option maxHeartbeats 4000000 in
theorem ref24_Turn_c (T : Nat → Prop) (W0 : World) (hT : ∀ k, T k → k < W0.heap.size) (hLv : LvP T W0) (rules_ : (List RuleD)) (k_1 : KeyD) (answers_ : (List ByteArray)) (v1 : Value) (v2 : Value) (hv1 : SlR R_RuleD T W0 v1 rules_) (hv2 : SlR Rep.str T W0 v2 answers_) (y : TurnD) (hM : ref24_Turn rules_ k_1 answers_ = some y) : Rets Tryd.prog No 38 [v1, .agg #[.int .i64 k_1.Kind, .string k_1.Text], v2] W0 (fun v w' => v = .agg #[.bool y.Done, .string y.Value, .int .i64 y.Ask.Kind, .string y.Ask.Text]) := by
  refine enter (c := _) Tryd.func38 rfl T 84 Tryd.ntmps38 hT rfl fun a hS => ?_
  replace hS := hS.fact LvF (LvP.dn hLv)
  replace hS := hS.fact (SlF R_RuleD v1 rules_) (SlR.dn hv1)
  replace hS := hS.fact (SlF Rep.str v2 answers_) (SlR.dn hv2)
  unfold ref24_Turn at hM
  refine wp_seq_k fun K18 hK18 => ?_
  refine r_list ?_
  refine wl rfl (k_box hS rfl (cs := [.int .i64 k_1.Kind, .string k_1.Text]) rfl rfl fun b144 hnb146 a w hk hS => ?_)
  refine wl rfl (k_alloc hS ze70 rfl fun b147 hnb149 a w hk hS => ?_)
  refine wpList_nil ?_
  try simp only [Exit.then, Exit.inBlock, ↓reduceIte, Nat.reduceEqDiff]
  refine hK18 _ _ ?_
  refine wp_seq_k fun K19 hK19 => ?_
  refine r_list ?_
  refine wl rfl (ky (v := .agg #[.int .i64 k_1.Kind, .string k_1.Text]) hS (y_load hS rfl ty28 1 rfl id (us := [.int .i64 k_1.Kind, .string k_1.Text]) rfl rfl (fun h => by cases h)) rfl rfl fun a hS => ?_)
  obtain ⟨u150, hu150, hM⟩ := bd hM
  refine wl rfl (k_call hS ci43 rfl rfl (ref23_Number_c _ _ hS.dlt k_1 _ hu150) fun _ w hR a hk hA => ?_)
  have he := Eq.symm hR
  subst he
  have hS := hA [] (fun r hr => by cases hr) List.Pairwise.nil
  refine wl rfl (ky (v := .int .i64 u150) hS (y_assign hS rfl) rfl rfl fun a hS => ?_)
  refine wpList_nil ?_
  try simp only [Exit.then, Exit.inBlock, ↓reduceIte, Nat.reduceEqDiff]
  refine hK19 _ _ ?_
  refine wp_seq_k fun K20 hK20 => ?_
  refine wp_seq_k fun K21 hK21 => ?_
  refine draws [] hS mixed rfl (fun c a d v w h => by cases d <;> exact h) fun w hQ hS => ?_
  refine dy 0 (v := .int .i64 u150) rfl (by kernel_rfl) (by kernel_rfl) (by kernel_rfl) rfl hQ hS (y_move hS rfl) rfl rfl rfl fun a hS => ?_
  refine dy 1 (v := .bool (decide ((u150 : Int) < 0))) rfl (by kernel_rfl) (by kernel_rfl) (by kernel_rfl) rfl hQ hS (y_int hS rfl rfl rfl) rfl rfl rfl fun a hS => ?_
  refine dy 2 (v := .bool (decide ((u150 : Int) < 0))) rfl (by kernel_rfl) (by kernel_rfl) (by kernel_rfl) rfl hQ hS (y_move hS rfl) rfl rfl rfl fun a hS => ?_
  rcases bool2 (decide ((u150 : Int) < 0)) with hb164 | hb164
  · replace hM := ct hb164 hM
    refine dyn 3 rfl (by kernel_rfl) (by kernel_rfl) (by kernel_rfl) hQ hS rfl rfl rfl hb164 rfl rfl fun a hS => ?_
    refine dyn 4 rfl (by kernel_rfl) (by kernel_rfl) (by kernel_rfl) hQ hS rfl rfl rfl hb164 rfl rfl fun a hS => ?_
    refine dyn 5 rfl (by kernel_rfl) (by kernel_rfl) (by kernel_rfl) hQ hS rfl rfl rfl hb164 rfl rfl fun a hS => ?_
    refine dyn 6 rfl (by kernel_rfl) (by kernel_rfl) (by kernel_rfl) hQ hS rfl rfl rfl hb164 rfl rfl fun a hS => ?_
    refine dy 7 (v := .bool true) rfl (by kernel_rfl) (by kernel_rfl) (by kernel_rfl) rfl hQ hS (y_pickt hS rfl hb164 rfl) rfl rfl rfl fun a hS => ?_
    refine dy 8 (v := .bool true) rfl (by kernel_rfl) (by kernel_rfl) (by kernel_rfl) rfl hQ hS (y_move hS rfl) rfl rfl rfl fun a hS => ?_
    refine dyn 9 rfl (by kernel_rfl) (by kernel_rfl) (by kernel_rfl) hQ hS rfl rfl rfl rfl rfl rfl fun a hS => ?_
    refine dyn 10 rfl (by kernel_rfl) (by kernel_rfl) (by kernel_rfl) hQ hS rfl rfl rfl rfl rfl rfl fun a hS => ?_
    refine dyn 11 rfl (by kernel_rfl) (by kernel_rfl) (by kernel_rfl) hQ hS rfl rfl rfl rfl rfl rfl fun a hS => ?_
    refine dyn 12 rfl (by kernel_rfl) (by kernel_rfl) (by kernel_rfl) hQ hS rfl rfl rfl rfl rfl rfl fun a hS => ?_
    refine dyn 13 rfl (by kernel_rfl) (by kernel_rfl) (by kernel_rfl) hQ hS rfl rfl rfl rfl rfl rfl fun a hS => ?_
    refine dy 14 (v := .bool true) rfl (by kernel_rfl) (by kernel_rfl) (by kernel_rfl) rfl hQ hS (y_pickt hS rfl rfl rfl) rfl rfl rfl fun a hS => ?_
    refine wpE_done (by kernel_rfl) ?_ _
    try simp only [Exit.then, Exit.inBlock, ↓reduceIte, Nat.reduceEqDiff]
    refine hK21 _ _ ?_
    refine c_t hS rfl rfl ?_
    refine wp_seq_k fun K22 hK22 => ?_
    refine r_list ?_
    refine wl rfl (ky (v := .agg #[.bool true, .string (ByteArray.mk #[]), .int .i64 0, .string (ByteArray.mk #[])]) hS (y_build (ps := [(0, .const (.bool true))]) hS pl70 ze70 rfl (us := [[.bool true]]) ⟨rfl, trivial⟩ (ws := [.bool true, .string (ByteArray.mk #[]), .int .i64 0, .string (ByteArray.mk #[])]) rfl) rfl rfl fun a hS => ?_)
    refine wl rfl (k_store hS rfl rfl (us := [.bool true, .string (ByteArray.mk #[]), .int .i64 0, .string (ByteArray.mk #[])]) rfl ty70 0 rfl rfl rfl (oc rfl (oc rfl (oc rfl (oc rfl on)))) fun w hk hS => ?_)
    refine wpList_nil ?_
    try simp only [Exit.then, Exit.inBlock, ↓reduceIte, Nat.reduceEqDiff]
    refine hK22 _ _ ?_
    refine wp_ret ?_
    injection hM with hM
    subst hM
    try simp only [Exit.then, Exit.inBlock, ↓reduceIte, Nat.reduceEqDiff]
    refine ret_ok hS Tryd.results38 (res_cell hS rfl 0 rfl ty70 rfl (fun h => by cases h) res_nil) ?_
    exact rfl
  · replace hM := cf hb164 hM
    refine dyg 3 (v := .int .i64 u150) rfl (by kernel_rfl) (by kernel_rfl) (by kernel_rfl) rfl hQ hS (y_move hS rfl) rfl rfl rfl hb164 rfl rfl fun a hS => ?_
    refine dyg 4 (v := v1) rfl (by kernel_rfl) (by kernel_rfl) (by kernel_rfl) rfl hQ hS (y_move hS rfl) rfl rfl rfl hb164 rfl rfl fun a hS => ?_
    refine dyg 5 (v := .int .i64 (rules_.length : Int)) rfl (by kernel_rfl) (by kernel_rfl) (by kernel_rfl) rfl hQ hS (y_len (R := R_RuleD) (xs := rules_) hS sl49 rfl 1 rfl) rfl rfl rfl hb164 rfl rfl fun a hS => ?_
    refine dyg 6 (v := .bool (decide (((rules_.length : Int) : Int) ≤ u150))) rfl (by kernel_rfl) (by kernel_rfl) (by kernel_rfl) rfl hQ hS (y_int hS rfl rfl rfl) rfl rfl rfl hb164 rfl rfl fun a hS => ?_
    refine dy 7 (v := .bool (decide (((rules_.length : Int) : Int) ≤ u150))) rfl (by kernel_rfl) (by kernel_rfl) (by kernel_rfl) rfl hQ hS (y_pickf hS rfl hb164 rfl) rfl rfl rfl fun a hS => ?_
    refine dy 8 (v := .bool (decide (((rules_.length : Int) : Int) ≤ u150))) rfl (by kernel_rfl) (by kernel_rfl) (by kernel_rfl) rfl hQ hS (y_move hS rfl) rfl rfl rfl fun a hS => ?_
    rcases bool2 (decide (((rules_.length : Int) : Int) ≤ u150)) with hb165 | hb165
    · replace hM := ct hb165 hM
      refine dyn 9 rfl (by kernel_rfl) (by kernel_rfl) (by kernel_rfl) hQ hS rfl rfl rfl hb165 rfl rfl fun a hS => ?_
      refine dyn 10 rfl (by kernel_rfl) (by kernel_rfl) (by kernel_rfl) hQ hS rfl rfl rfl hb165 rfl rfl fun a hS => ?_
      refine dyn 11 rfl (by kernel_rfl) (by kernel_rfl) (by kernel_rfl) hQ hS rfl rfl rfl hb165 rfl rfl fun a hS => ?_
      refine dyn 12 rfl (by kernel_rfl) (by kernel_rfl) (by kernel_rfl) hQ hS rfl rfl rfl hb165 rfl rfl fun a hS => ?_
      refine dyn 13 rfl (by kernel_rfl) (by kernel_rfl) (by kernel_rfl) hQ hS rfl rfl rfl hb165 rfl rfl fun a hS => ?_
      refine dy 14 (v := .bool true) rfl (by kernel_rfl) (by kernel_rfl) (by kernel_rfl) rfl hQ hS (y_pickt hS rfl hb165 rfl) rfl rfl rfl fun a hS => ?_
      refine wpE_done (by kernel_rfl) ?_ _
      try simp only [Exit.then, Exit.inBlock, ↓reduceIte, Nat.reduceEqDiff]
      refine hK21 _ _ ?_
      refine c_t hS rfl rfl ?_
      refine wp_seq_k fun K23 hK23 => ?_
      refine r_list ?_
      refine wl rfl (ky (v := .agg #[.bool true, .string (ByteArray.mk #[]), .int .i64 0, .string (ByteArray.mk #[])]) hS (y_build (ps := [(0, .const (.bool true))]) hS pl70 ze70 rfl (us := [[.bool true]]) ⟨rfl, trivial⟩ (ws := [.bool true, .string (ByteArray.mk #[]), .int .i64 0, .string (ByteArray.mk #[])]) rfl) rfl rfl fun a hS => ?_)
      refine wl rfl (k_store hS rfl rfl (us := [.bool true, .string (ByteArray.mk #[]), .int .i64 0, .string (ByteArray.mk #[])]) rfl ty70 0 rfl rfl rfl (oc rfl (oc rfl (oc rfl (oc rfl on)))) fun w hk hS => ?_)
      refine wpList_nil ?_
      try simp only [Exit.then, Exit.inBlock, ↓reduceIte, Nat.reduceEqDiff]
      refine hK23 _ _ ?_
      refine wp_ret ?_
      injection hM with hM
      subst hM
      try simp only [Exit.then, Exit.inBlock, ↓reduceIte, Nat.reduceEqDiff]
      refine ret_ok hS Tryd.results38 (res_cell hS rfl 0 rfl ty70 rfl (fun h => by cases h) res_nil) ?_
      exact rfl
    · replace hM := cf hb165 hM
      refine dyg 9 (v := v1) rfl (by kernel_rfl) (by kernel_rfl) (by kernel_rfl) rfl hQ hS (y_move hS rfl) rfl rfl rfl hb165 rfl rfl fun a hS => ?_
      refine dyg 10 (v := .int .i64 u150) rfl (by kernel_rfl) (by kernel_rfl) (by kernel_rfl) rfl hQ hS (y_move hS rfl) rfl rfl rfl hb165 rfl rfl fun a hS => ?_
      refine dyg (l := []) 12 (v := .agg #[.int .i64 k_1.Kind, .string k_1.Text]) rfl (by kernel_rfl) (by kernel_rfl) (by kernel_rfl) (by kernel_rfl) hQ hS (y_load hS rfl ty28 1 rfl eo_nil (us := [.int .i64 k_1.Kind, .string k_1.Text]) rfl rfl (fun h => by cases h)) rfl rfl rfl hb165 rfl rfl fun a hS => ?_
      obtain ⟨u166, hu166, hM⟩ := bd hM
      refine wpE_oneg (i := 11) rfl (by kernel_rfl) hS rfl rfl rfl hb165 (k_call hS ci35 rfl rfl (ref23_Of_c _ _ hS.dlt (hS.get 2 rfl) rules_ u150 _ (hS.get 1 rfl) _ hu166) fun _ w hR a hk hA => ⟨stN (hk), ?_⟩)
      have he := Eq.symm hR
      subst he
      have hS := hA [] (fun r hr => by cases hr) List.Pairwise.nil
      refine dyg 13 (v := .bool (!((u166.Kind : Int) == k_1.Kind && u166.Text.toList == k_1.Text.toList))) rfl (by kernel_rfl) (by kernel_rfl) (by kernel_rfl) rfl hQ hS (eq28n hS rfl rfl) rfl rfl rfl hb165 rfl rfl fun a hS => ?_
      refine dy 14 (v := .bool (!((u166.Kind : Int) == k_1.Kind && u166.Text.toList == k_1.Text.toList))) rfl (by kernel_rfl) (by kernel_rfl) (by kernel_rfl) rfl hQ hS (y_pickf hS rfl hb165 rfl) rfl rfl rfl fun a hS => ?_
      refine wpE_done (by kernel_rfl) ?_ _
      try simp only [Exit.then, Exit.inBlock, ↓reduceIte, Nat.reduceEqDiff]
      refine hK21 _ _ ?_
      rcases bool2 (!((u166.Kind : Int) == k_1.Kind && u166.Text.toList == k_1.Text.toList)) with hb168 | hb168
      · replace hM := ct hb168 hM
        refine c_t hS rfl hb168 ?_
        refine wp_seq_k fun K24 hK24 => ?_
        refine r_list ?_
        refine wl rfl (ky (v := .agg #[.bool true, .string (ByteArray.mk #[]), .int .i64 0, .string (ByteArray.mk #[])]) hS (y_build (ps := [(0, .const (.bool true))]) hS pl70 ze70 rfl (us := [[.bool true]]) ⟨rfl, trivial⟩ (ws := [.bool true, .string (ByteArray.mk #[]), .int .i64 0, .string (ByteArray.mk #[])]) rfl) rfl rfl fun a hS => ?_)
        refine wl rfl (k_store hS rfl rfl (us := [.bool true, .string (ByteArray.mk #[]), .int .i64 0, .string (ByteArray.mk #[])]) rfl ty70 0 rfl rfl rfl (oc rfl (oc rfl (oc rfl (oc rfl on)))) fun w hk hS => ?_)
        refine wpList_nil ?_
        try simp only [Exit.then, Exit.inBlock, ↓reduceIte, Nat.reduceEqDiff]
        refine hK24 _ _ ?_
        refine wp_ret ?_
        injection hM with hM
        subst hM
        try simp only [Exit.then, Exit.inBlock, ↓reduceIte, Nat.reduceEqDiff]
        refine ret_ok hS Tryd.results38 (res_cell hS rfl 0 rfl ty70 rfl (fun h => by cases h) res_nil) ?_
        exact rfl
      · replace hM := cf hb168 hM
        refine c_f hS rfl hb168 ?_
        refine wp_skip ?_
        try simp only [Exit.then, Exit.inBlock, ↓reduceIte, Nat.reduceEqDiff]
        refine hK20 _ _ ?_
        refine wp_seq_k fun K25 hK25 => ?_
        refine r_list ?_
        refine wl rfl (ky (v := v1) hS (y_move hS rfl) rfl rfl fun a hS => ?_)
        refine wl rfl (ky (v := .int .i64 u150) hS (y_move hS rfl) rfl rfl fun a hS => ?_)
        obtain ⟨e169, he169, hM⟩ := bd hM
        refine wl rfl (k_index (R := R_RuleD) hS sl49 ty53 rfl rfl 1 rfl he169 rfl fun b171 o172 cs174 hr173 a hS => ?_)
        obtain ⟨v170, rfl, hv170⟩ := hr173
        replace hS := hS.fact (SlF R_AskD v170 e169.Asks) hv170
        refine wl rfl (ky (v := .agg #[.bool e169.Ring, v170, .int .i64 e169.Final, .int .i64 e169.C]) hS (y_loadc (k := 0) hS ty53 1 rfl rfl (fun _ h => h.elim) (us := [.bool e169.Ring, v170, .int .i64 e169.Final, .int .i64 e169.C]) rfl rfl (fun h => by cases h)) rfl rfl fun a hS => ?_)
        refine wl rfl (ky (v := v2) hS (y_move hS rfl) rfl rfl fun a hS => ?_)
        refine wl rfl (ky (v := .int .i64 (answers_.length : Int)) hS (y_len (R := Rep.str) (xs := answers_) hS sl65 rfl 2 rfl) rfl rfl fun a hS => ?_)
        refine wl rfl (k_alloc hS ze53 rfl fun b176 hnb178 a w hk hS => ?_)
        refine wl rfl (k_store hS rfl rfl (us := [.bool e169.Ring, v170, .int .i64 e169.Final, .int .i64 e169.C]) rfl ty53 0 rfl rfl rfl (oc rfl (oc (SlR.one ((hS.get 0 rfl) : SlR R_AskD _ _ _ _)) (oc rfl (oc rfl on)))) fun w hk hS => ?_)
        refine wl rfl (ky (v := .int .i64 (answers_.length : Int)) hS (y_assign hS rfl) rfl rfl fun a hS => ?_)
        refine wpList_nil ?_
        try simp only [Exit.then, Exit.inBlock, ↓reduceIte, Nat.reduceEqDiff]
        refine hK25 _ _ ?_
        refine wp_seq_k fun K26 hK26 => ?_
        refine wp_seq_k fun K27 hK27 => ?_
        refine r_list ?_
        refine wl rfl (ky (v := .int .i64 (answers_.length : Int)) hS (y_move hS rfl) rfl rfl fun a hS => ?_)
        refine wl rfl (ky (v := .pointer (some ⟨b176, 0 + 1, none⟩)) hS (y_fld hS rfl fl53_1) rfl rfl fun a hS => ?_)
        refine wl rfl (ky (v := v170) hS (y_load hS rfl ty51 0 rfl id (us := [v170]) rfl rfl (fun _ => rfl)) rfl rfl fun a hS => ?_)
        refine wl rfl (ky (v := .int .i64 (e169.Asks.length : Int)) hS (y_len (R := R_AskD) (xs := e169.Asks) hS sl51 rfl 0 rfl) rfl rfl fun a hS => ?_)
        refine wl rfl (ky (v := .bool (decide (((e169.Asks.length : Int) : Int) ≤ (answers_.length : Int)))) hS (y_int hS rfl rfl rfl) rfl rfl fun a hS => ?_)
        refine wpList_nil ?_
        try simp only [Exit.then, Exit.inBlock, ↓reduceIte, Nat.reduceEqDiff]
        refine hK27 _ _ ?_
        rcases bool2 (decide (((e169.Asks.length : Int) : Int) ≤ (answers_.length : Int))) with hb179 | hb179
        · replace hM := ct hb179 hM
          refine c_t hS rfl hb179 ?_
          refine wp_seq_k fun K28 hK28 => ?_
          refine draws [(9, .blk (some b147))] hS mixed rfl (fun c a d v w h => by cases d <;> exact h) fun w hQ hS => ?_
          refine dy (l := []) 0 (v := .agg #[.bool e169.Ring, v170, .int .i64 e169.Final, .int .i64 e169.C]) rfl (by kernel_rfl) (by kernel_rfl) (by kernel_rfl) (by kernel_rfl) hQ hS (y_load hS rfl ty53 0 rfl eo_nil (us := [.bool e169.Ring, v170, .int .i64 e169.Final, .int .i64 e169.C]) rfl rfl (fun h => by cases h)) rfl rfl rfl fun a hS => ?_
          refine dy 1 (v := v2) rfl (by kernel_rfl) (by kernel_rfl) (by kernel_rfl) rfl hQ hS (y_move hS rfl) rfl rfl rfl fun a hS => ?_
          refine dy 2 (v := .pointer (some ⟨b176, 0 + 1, none⟩)) rfl (by kernel_rfl) (by kernel_rfl) (by kernel_rfl) rfl hQ hS (y_fld hS rfl fl53_1) rfl rfl rfl fun a hS => ?_
          refine dy (l := []) 3 (v := v170) rfl (by kernel_rfl) (by kernel_rfl) (by kernel_rfl) (by kernel_rfl) hQ hS (y_load hS rfl ty51 0 rfl eo_nil (us := [v170]) rfl rfl (fun _ => rfl)) rfl rfl rfl fun a hS => ?_
          refine dy 4 (v := .int .i64 (e169.Asks.length : Int)) rfl (by kernel_rfl) (by kernel_rfl) (by kernel_rfl) rfl hQ hS (y_len (R := R_AskD) (xs := e169.Asks) hS sl51 rfl 0 rfl) rfl rfl rfl fun a hS => ?_
          obtain ⟨l201, hl201, hM⟩ := bd hM
          obtain ⟨v202, hy203, hS⟩ := d_sub (R := Rep.str) hS sl65 ty9 2 rfl hl201
          refine dy 5 (v := v202) rfl (by kernel_rfl) (by kernel_rfl) (by kernel_rfl) rfl hQ hS (hy203 (k1 := .i64) rfl (.inr ⟨rfl, rfl⟩) (.inl ⟨_, rfl, rfl⟩)) rfl rfl rfl fun a hS => ?_
          obtain ⟨u204, hu204, hM⟩ := bd hM
          refine wpE_one (i := 6) rfl (by kernel_rfl) rfl (k_call hS ci59 rfl rfl (ref24_final_c _ _ hS.dlt e169 l201 _ _ (hS.get 1 rfl) (hS.get 0 rfl) _ hu204) fun _ w hR a hk hA => ⟨stN (hk), ?_⟩)
          have he := Eq.symm hR
          subst he
          have hS := hA [] (fun r hr => by cases hr) List.Pairwise.nil
          obtain ⟨u206, hu206, hM⟩ := bd hM
          refine wpE_one (i := 7) rfl (by kernel_rfl) rfl (k_call hS ci36 rfl rfl (itoaM_c _ _ hS.dlt (hS.get 5 rfl) u204 _ hu206) fun _ w hR a hk hA => ⟨stN (hk), ?_⟩)
          have he := Eq.symm hR
          subst he
          have hS := hA [] (fun r hr => by cases hr) List.Pairwise.nil
          refine dy 8 (v := .agg #[.bool true, .string u206, .int .i64 0, .string (ByteArray.mk #[])]) rfl (by kernel_rfl) (by kernel_rfl) (by kernel_rfl) rfl hQ hS (y_build (ps := [(0, .const (.bool true)), (1, .tmp 48)]) hS pl70 ze70 rfl (us := [[.bool true], [.string u206]]) ⟨rfl, ⟨rfl, trivial⟩⟩ (ws := [.bool true, .string u206, .int .i64 0, .string (ByteArray.mk #[])]) rfl) rfl rfl rfl fun a hS => ?_
          refine wpE_one (i := 9) rfl (by kernel_rfl) rfl (k_store hS rfl rfl (us := [.bool true, .string u206, .int .i64 0, .string (ByteArray.mk #[])]) rfl ty70 1 rfl rfl rfl (oc rfl (oc rfl (oc rfl (oc rfl on)))) fun w hk hS => ⟨stM rfl hk etBox, ?_⟩)
          refine wpE_done (by kernel_rfl) ?_ _
          try simp only [Exit.then, Exit.inBlock, ↓reduceIte, Nat.reduceEqDiff]
          refine hK28 _ _ ?_
          refine wp_ret ?_
          injection hM with hM
          subst hM
          try simp only [Exit.then, Exit.inBlock, ↓reduceIte, Nat.reduceEqDiff]
          refine ret_ok hS Tryd.results38 (res_cell hS rfl 1 rfl ty70 rfl (fun h => by cases h) res_nil) ?_
          exact rfl
        · replace hM := cf hb179 hM
          refine c_f hS rfl hb179 ?_
          refine wp_skip ?_
          try simp only [Exit.then, Exit.inBlock, ↓reduceIte, Nat.reduceEqDiff]
          refine hK26 _ _ ?_
          refine wp_seq_k fun K29 hK29 => ?_
          refine r_list ?_
          refine wl rfl (ky (v := .pointer (some ⟨b176, 0 + 1, none⟩)) hS (y_fld hS rfl fl53_1) rfl rfl fun a hS => ?_)
          refine wl rfl (ky (v := v170) hS (y_load hS rfl ty51 0 rfl id (us := [v170]) rfl rfl (fun _ => rfl)) rfl rfl fun a hS => ?_)
          refine wl rfl (ky (v := .int .i64 (answers_.length : Int)) hS (y_move hS rfl) rfl rfl fun a hS => ?_)
          obtain ⟨e208, he208, hM⟩ := bd hM
          refine wl rfl (k_index (R := R_AskD) hS sl51 ty60 rfl rfl 0 rfl he208 rfl fun b209 o210 cs212 hr211 a hS => ?_)
          obtain rfl := hr211
          refine wl rfl (ky (v := .agg #[.bool e208.Cell, .bool e208.Pick, .int .i64 e208.N, .int .i64 e208.Else]) hS (y_loadc (k := 0) hS ty60 0 rfl rfl (fun _ h => h.elim) (us := [.bool e208.Cell, .bool e208.Pick, .int .i64 e208.N, .int .i64 e208.Else]) rfl rfl (fun h => by cases h)) rfl rfl fun a hS => ?_)
          refine wl rfl (k_alloc hS ze60 rfl fun b214 hnb216 a w hk hS => ?_)
          refine wl rfl (k_store hS rfl rfl (us := [.bool e208.Cell, .bool e208.Pick, .int .i64 e208.N, .int .i64 e208.Else]) rfl ty60 0 rfl rfl rfl (oc rfl (oc rfl (oc rfl (oc rfl on)))) fun w hk hS => ?_)
          refine wpList_nil ?_
          try simp only [Exit.then, Exit.inBlock, ↓reduceIte, Nat.reduceEqDiff]
          refine hK29 _ _ ?_
          refine wp_seq_k fun K30 hK30 => ?_
          refine r_list ?_
          refine wl rfl (ky (v := .pointer (some ⟨b214, 0 + 2, none⟩)) hS (y_fld hS rfl fl60_2) rfl rfl fun a hS => ?_)
          refine wl rfl (ky (v := .int .i64 e208.N) hS (y_load hS rfl ty3 0 rfl id (us := [.int .i64 e208.N]) rfl rfl (fun _ => rfl)) rfl rfl fun a hS => ?_)
          refine wl rfl (ky (v := .int .i64 e208.N) hS (y_assign hS rfl) rfl rfl fun a hS => ?_)
          refine wpList_nil ?_
          try simp only [Exit.then, Exit.inBlock, ↓reduceIte, Nat.reduceEqDiff]
          refine hK30 _ _ ?_
          refine seq_j (J := fun a w => ∃ (at249 : Int), St W0 No T 84 [(0, v1), (6, .pointer (some ⟨b147, 0, none⟩)), (10, .pointer (some ⟨b214, 0, none⟩)), (11, .int .i64 at249)] [.box b147 [.bool false, .string (ByteArray.mk #[]), .int .i64 0, .string (ByteArray.mk #[])] 70, .box b214 [.bool e208.Cell, .bool e208.Pick, .int .i64 e208.N, .int .i64 e208.Else] 60] [SlF R_RuleD v1 rules_, LvF] a w ∧ ref24_Turn_j1 rules_ e208 at249 = some y) ?_ ?_
          · skip
            refine seq_j (J := fun a w => ∃ (g275 : Bool), St W0 No T 84 [(0, v1), (6, .pointer (some ⟨b147, 0, none⟩)), (10, .pointer (some ⟨b214, 0, none⟩)), (11, .int .i64 e208.N), (72, .bool g275)] [.box b147 [.bool false, .string (ByteArray.mk #[]), .int .i64 0, .string (ByteArray.mk #[])] 70, .box b214 [.bool e208.Cell, .bool e208.Pick, .int .i64 e208.N, .int .i64 e208.Else] 60] [SlF R_RuleD v1 rules_, LvF] a w ∧ ref24_Turn_j2 rules_ e208 g275 = some y) ?_ ?_
            · skip
              refine r_list ?_
              refine wl rfl (ky (v := .pointer (some ⟨b214, 0 + 1, none⟩)) hS (y_fld hS rfl fl60_1) rfl rfl fun a hS => ?_)
              refine wl rfl (ky (v := .bool e208.Pick) hS (y_load hS rfl ty4 0 rfl id (us := [.bool e208.Pick]) rfl rfl (fun _ => rfl)) rfl rfl fun a hS => ?_)
              refine wl rfl (ky (v := .bool e208.Pick) hS (y_move hS rfl) rfl rfl fun a hS => ?_)
              rcases bool2 (e208.Pick) with hb277 | hb277
              · replace hM := ct hb277 hM
                refine wg hS rfl rfl rfl hb277 (ky (v := .int .i64 (answers_.length : Int)) hS (y_move hS rfl) rfl rfl fun a hS => ?_)
                refine wg hS rfl rfl rfl hb277 (ky (v := .bool (((answers_.length : Int) : Int) == 0)) hS (y_int hS rfl rfl rfl) rfl rfl fun a hS => ?_)
                refine wg hS rfl rfl rfl hb277 (ky (v := .bool (((answers_.length : Int) : Int) == 0)) hS (y_move hS rfl) rfl rfl fun a hS => ?_)
                rcases bool2 (((answers_.length : Int) : Int) == 0) with hb278 | hb278
                · replace hM := ct hb278 hM
                  refine wn hS rfl rfl rfl hb278 rfl rfl fun a hS => ?_
                  refine wn hS rfl rfl rfl hb278 rfl rfl fun a hS => ?_
                  refine wn hS rfl rfl rfl hb278 rfl rfl fun a hS => ?_
                  refine wn hS rfl rfl rfl hb278 rfl rfl fun a hS => ?_
                  refine wn hS rfl rfl rfl hb278 rfl rfl fun a hS => ?_
                  refine wn hS rfl rfl rfl hb278 rfl rfl fun a hS => ?_
                  refine wn hS rfl rfl rfl hb278 rfl rfl fun a hS => ?_
                  refine wn hS rfl rfl rfl hb278 rfl rfl fun a hS => ?_
                  refine wg hS rfl rfl rfl hb277 (ky (v := .bool true) hS (y_pickt hS rfl hb278 rfl) rfl rfl fun a hS => ?_)
                  refine wl rfl (ky (v := .bool true) hS (y_pickt hS rfl hb277 rfl) rfl rfl fun a hS => ?_)
                  refine wpList_nil ?_
                  try simp only [Exit.then, Exit.inBlock, ↓reduceIte, Nat.reduceEqDiff]
                  exact ⟨true, (hS.meet [2, 0] (by decide) ⟨rfl, rfl, rfl, rfl, rfl, trivial⟩ ⟨rfl, rfl, trivial⟩ ⟨⟨4, rfl⟩, ⟨5, rfl⟩, trivial⟩), hM⟩
                · replace hM := cf hb278 hM
                  refine wg hS rfl rfl rfl hb278 (ky (v := v2) hS (y_move hS rfl) rfl rfl fun a hS => ?_)
                  refine wg hS rfl rfl rfl hb278 (ky (v := .int .i64 (answers_.length : Int)) hS (y_move hS rfl) rfl rfl fun a hS => ?_)
                  refine wg hS rfl rfl rfl hb278 (ky (v := .int .i64 (IntKind.i64.wrap ((answers_.length : Int) - 1))) hS (y_int hS rfl rfl rfl) rfl rfl fun a hS => ?_)
                  obtain ⟨e279, he279, hM⟩ := bd hM
                  refine wg hS rfl rfl rfl hb278 (k_index (R := Rep.str) hS sl65 ty9 rfl rfl 3 rfl he279 rfl fun b280 o281 cs283 hr282 a hS => ?_)
                  obtain rfl := hr282
                  refine wg hS rfl rfl rfl hb278 (ky (v := .string e279) hS (y_loadc (k := 0) hS ty9 0 rfl rfl (fun _ h => h.elim) (us := [.string e279]) rfl rfl (fun _ => rfl)) rfl rfl fun a hS => ?_)
                  obtain ⟨u285, hu285, hM⟩ := bd hM
                  refine wg hS rfl rfl rfl hb278 (k_call hS ci40 rfl rfl (ref24_Value_c _ _ hS.dlt e279 _ hu285) fun _ w hR a hk hA => ?_)
                  have he := Eq.symm hR
                  subst he
                  have hS := hA [] (fun r hr => by cases hr) List.Pairwise.nil
                  refine wg hS rfl rfl rfl hb278 (ky (v := .int .i64 (Int.tmod u285 2)) hS (y_rem hS rfl rfl (by decide)) rfl rfl fun a hS => ?_)
                  refine wg hS rfl rfl rfl hb278 (ky (v := .bool ((Int.tmod u285 2 : Int) == 0)) hS (y_int hS rfl rfl rfl) rfl rfl fun a hS => ?_)
                  refine wg hS rfl rfl rfl hb277 (ky (v := .bool ((Int.tmod u285 2 : Int) == 0)) hS (y_pickf hS rfl hb278 rfl) rfl rfl fun a hS => ?_)
                  refine wl rfl (ky (v := .bool ((Int.tmod u285 2 : Int) == 0)) hS (y_pickt hS rfl hb277 rfl) rfl rfl fun a hS => ?_)
                  refine wpList_nil ?_
                  try simp only [Exit.then, Exit.inBlock, ↓reduceIte, Nat.reduceEqDiff]
                  exact ⟨((Int.tmod u285 2 : Int) == 0), (hS.meet [2, 0] (by decide) ⟨rfl, rfl, rfl, rfl, rfl, trivial⟩ ⟨rfl, rfl, trivial⟩ ⟨⟨5, rfl⟩, ⟨6, rfl⟩, trivial⟩), hM⟩
              · replace hM := cf hb277 hM
                refine wn hS rfl rfl rfl hb277 rfl rfl fun a hS => ?_
                refine wn hS rfl rfl rfl hb277 rfl rfl fun a hS => ?_
                refine wn hS rfl rfl rfl hb277 rfl rfl fun a hS => ?_
                refine wnu hS rfl rfl rfl rfl rfl fun a hS => ?_
                refine wnu hS rfl rfl rfl rfl rfl fun a hS => ?_
                refine wnu hS rfl rfl rfl rfl rfl fun a hS => ?_
                refine wnu hS rfl rfl rfl rfl rfl fun a hS => ?_
                refine wnu hS rfl rfl rfl rfl rfl fun a hS => ?_
                refine wnu hS rfl rfl rfl rfl rfl fun a hS => ?_
                refine wnu hS rfl rfl rfl rfl rfl fun a hS => ?_
                refine wnu hS rfl rfl rfl rfl rfl fun a hS => ?_
                refine wn hS rfl rfl rfl hb277 rfl rfl fun a hS => ?_
                refine wl rfl (ky (v := .bool false) hS (y_pickf hS rfl hb277 rfl) rfl rfl fun a hS => ?_)
                refine wpList_nil ?_
                try simp only [Exit.then, Exit.inBlock, ↓reduceIte, Nat.reduceEqDiff]
                exact ⟨false, (hS.meet [2, 0] (by decide) ⟨rfl, rfl, rfl, rfl, rfl, trivial⟩ ⟨rfl, rfl, trivial⟩ ⟨⟨4, rfl⟩, ⟨5, rfl⟩, trivial⟩), hM⟩
            · rintro a w ⟨g275, hS, hM⟩
              unfold ref24_Turn_j2 at hM
              rcases bool2 (g275) with hb276 | hb276
              · replace hM := ct hb276 hM
                refine c_t hS rfl hb276 ?_
                refine r_list ?_
                refine wl rfl (ky (v := .pointer (some ⟨b214, 0 + 3, none⟩)) hS (y_fld hS rfl fl60_3) rfl rfl fun a hS => ?_)
                refine wl rfl (ky (v := .int .i64 e208.Else) hS (y_load hS rfl ty3 1 rfl id (us := [.int .i64 e208.Else]) rfl rfl (fun _ => rfl)) rfl rfl fun a hS => ?_)
                refine wl rfl (ky (v := .int .i64 e208.Else) hS (y_assign hS rfl) rfl rfl fun a hS => ?_)
                refine wpList_nil ?_
                try simp only [Exit.then, Exit.inBlock, ↓reduceIte, Nat.reduceEqDiff]
                exact ⟨e208.Else, (hS.meet [0, 1] (by decide) ⟨rfl, rfl, rfl, rfl, trivial⟩ ⟨rfl, rfl, trivial⟩ ⟨⟨0, rfl⟩, ⟨1, rfl⟩, trivial⟩), hM⟩
              · replace hM := cf hb276 hM
                refine c_f hS rfl hb276 ?_
                refine wp_skip ?_
                try simp only [Exit.then, Exit.inBlock, ↓reduceIte, Nat.reduceEqDiff]
                exact ⟨e208.N, (hS.meet [0, 1] (by decide) ⟨rfl, rfl, rfl, rfl, trivial⟩ ⟨rfl, rfl, trivial⟩ ⟨⟨0, rfl⟩, ⟨1, rfl⟩, trivial⟩), hM⟩
          · rintro a w ⟨at249, hS, hM⟩
            unfold ref24_Turn_j1 at hM
            refine wp_seq_k fun K31 hK31 => ?_
            refine wp_seq_k fun K32 hK32 => ?_
            refine r_list ?_
            refine wl rfl (ky (v := .pointer (some ⟨b214, 0 + 0, none⟩)) hS (y_fld hS rfl fl60_0) rfl rfl fun a hS => ?_)
            refine wl rfl (ky (v := .bool e208.Cell) hS (y_load hS rfl ty4 1 rfl id (us := [.bool e208.Cell]) rfl rfl (fun _ => rfl)) rfl rfl fun a hS => ?_)
            refine wpList_nil ?_
            try simp only [Exit.then, Exit.inBlock, ↓reduceIte, Nat.reduceEqDiff]
            refine hK32 _ _ ?_
            rcases bool2 (e208.Cell) with hb250 | hb250
            · replace hM := ct hb250 hM
              refine c_t hS rfl hb250 ?_
              refine wp_seq_k fun K33 hK33 => ?_
              refine r_list ?_
              refine wl rfl (ky (v := .int .i64 at249) hS (y_move hS rfl) rfl rfl fun a hS => ?_)
              obtain ⟨u251, hu251, hM⟩ := bd hM
              refine wl rfl (k_call hS ci16 rfl rfl (ref23_Cell_c _ _ hS.dlt (hS.get 1 rfl) at249 _ hu251) fun _ w hR a hk hA => ?_)
              have he := Eq.symm hR
              subst he
              have hS := hA [] (fun r hr => by cases hr) List.Pairwise.nil
              refine wl rfl (ky (v := .agg #[.bool false, .string (ByteArray.mk #[]), .int .i64 u251.Kind, .string u251.Text]) hS (y_build (ps := [(2, .tmp 78)]) hS pl70 ze70 rfl (us := [[.int .i64 u251.Kind, .string u251.Text]]) ⟨rfl, trivial⟩ (ws := [.bool false, .string (ByteArray.mk #[]), .int .i64 u251.Kind, .string u251.Text]) rfl) rfl rfl fun a hS => ?_)
              refine wl rfl (k_store hS rfl rfl (us := [.bool false, .string (ByteArray.mk #[]), .int .i64 u251.Kind, .string u251.Text]) rfl ty70 0 rfl rfl rfl (oc rfl (oc rfl (oc rfl (oc rfl on)))) fun w hk hS => ?_)
              refine wpList_nil ?_
              try simp only [Exit.then, Exit.inBlock, ↓reduceIte, Nat.reduceEqDiff]
              refine hK33 _ _ ?_
              refine wp_ret ?_
              injection hM with hM
              subst hM
              try simp only [Exit.then, Exit.inBlock, ↓reduceIte, Nat.reduceEqDiff]
              refine ret_ok hS Tryd.results38 (res_cell hS rfl 0 rfl ty70 rfl (fun h => by cases h) res_nil) ?_
              exact rfl
            · replace hM := cf hb250 hM
              refine c_f hS rfl hb250 ?_
              refine wp_skip ?_
              try simp only [Exit.then, Exit.inBlock, ↓reduceIte, Nat.reduceEqDiff]
              refine hK31 _ _ ?_
              refine wp_seq_k fun K34 hK34 => ?_
              refine r_list ?_
              refine wl rfl (ky (v := v1) hS (y_move hS rfl) rfl rfl fun a hS => ?_)
              refine wl rfl (ky (v := .int .i64 at249) hS (y_move hS rfl) rfl rfl fun a hS => ?_)
              obtain ⟨u253, hu253, hM⟩ := bd hM
              refine wl rfl (k_call hS ci35 rfl rfl (ref23_Of_c _ _ hS.dlt (hS.get 1 rfl) rules_ at249 _ (hS.get 0 rfl) _ hu253) fun _ w hR a hk hA => ?_)
              have he := Eq.symm hR
              subst he
              have hS := hA [] (fun r hr => by cases hr) List.Pairwise.nil
              refine wl rfl (ky (v := .agg #[.bool false, .string (ByteArray.mk #[]), .int .i64 u253.Kind, .string u253.Text]) hS (y_build (ps := [(2, .tmp 82)]) hS pl70 ze70 rfl (us := [[.int .i64 u253.Kind, .string u253.Text]]) ⟨rfl, trivial⟩ (ws := [.bool false, .string (ByteArray.mk #[]), .int .i64 u253.Kind, .string u253.Text]) rfl) rfl rfl fun a hS => ?_)
              refine wl rfl (k_store hS rfl rfl (us := [.bool false, .string (ByteArray.mk #[]), .int .i64 u253.Kind, .string u253.Text]) rfl ty70 0 rfl rfl rfl (oc rfl (oc rfl (oc rfl (oc rfl on)))) fun w hk hS => ?_)
              refine wpList_nil ?_
              try simp only [Exit.then, Exit.inBlock, ↓reduceIte, Nat.reduceEqDiff]
              refine hK34 _ _ ?_
              refine wp_ret ?_
              injection hM with hM
              subst hM
              try simp only [Exit.then, Exit.inBlock, ↓reduceIte, Nat.reduceEqDiff]
              refine ret_ok hS Tryd.results38 (res_cell hS rfl 0 rfl ty70 rfl (fun h => by cases h) res_nil) ?_
              exact rfl

noncomputable def mill_Light (t_0 : (List Int)) : Option Bool := some (decide (((t_0.length : Int) : Int) ≤ 400))
set_option maxRecDepth 100000 in
set_option maxHeartbeats 4000000 in
theorem mill_Light_c (T : Nat → Prop) (W0 : World) (hT : ∀ k, T k → k < W0.heap.size) (t_0 : (List Int)) (v1 : Value) (hv1 : SlR (Rep.int .i64) T W0 v1 t_0) (y : Bool) (hM : mill_Light t_0 = some y) : Rets Tryd.prog No 26 [v1] W0 (fun v w' => v = .bool y) := by
  refine enter (c := _) Tryd.func26 rfl T 6 Tryd.ntmps26 hT rfl fun a hS => ?_
  replace hS := hS.fact (SlF (Rep.int .i64) v1 t_0) (SlR.dn hv1)
  unfold mill_Light at hM
  refine wp_seq_k fun K3 hK3 => ?_
  refine r_list ?_
  refine wl rfl (ky (v := .bool false) hS (y_assign hS rfl) rfl rfl fun a hS => ?_)
  refine wpList_nil ?_
  try simp only [Exit.then, Exit.inBlock, ↓reduceIte, Nat.reduceEqDiff]
  refine hK3 _ _ ?_
  refine wp_seq_k fun K4 hK4 => ?_
  refine r_list ?_
  refine wl rfl (ky (v := v1) hS (y_move hS rfl) rfl rfl fun a hS => ?_)
  refine wl rfl (ky (v := .int .i64 (t_0.length : Int)) hS (y_len (R := (Rep.int .i64)) (xs := t_0) hS sl44 rfl 0 rfl) rfl rfl fun a hS => ?_)
  refine wl rfl (ky (v := .bool (decide (((t_0.length : Int) : Int) ≤ 400))) hS (y_int hS rfl rfl rfl) rfl rfl fun a hS => ?_)
  refine wl rfl (ky (v := .bool (decide (((t_0.length : Int) : Int) ≤ 400))) hS (y_assign hS rfl) rfl rfl fun a hS => ?_)
  refine wpList_nil ?_
  try simp only [Exit.then, Exit.inBlock, ↓reduceIte, Nat.reduceEqDiff]
  refine hK4 _ _ ?_
  refine wp_ret ?_
  injection hM with hM
  subst hM
  try simp only [Exit.then, Exit.inBlock, ↓reduceIte, Nat.reduceEqDiff]
  refine ret_ok hS Tryd.results26 (res_tmp hS rfl res_nil) ?_
  exact rfl

noncomputable def mill_Roll (t_0 : (List Int)) : Option DiceD := some ((DiceD.mk t_0 0))
set_option maxRecDepth 100000 in
set_option maxHeartbeats 4000000 in
theorem mill_Roll_c (T : Nat → Prop) (W0 : World) (hT : ∀ k, T k → k < W0.heap.size) (t_0 : (List Int)) (v1 : Value) (hv1 : SlR (Rep.int .i64) T W0 v1 t_0) (y : DiceD) (hM : mill_Roll t_0 = some y) : Rets Tryd.prog No 29 [v1] W0 (fun v w' => ∃ (b2 : Nat) (v3 : Value), v = .pointer (some ⟨b2, 0, none⟩) ∧ W0.heap.size ≤ b2 ∧ w'.heap[b2]? = some (.cells #[v3, .int .i64 y.At] 84 (0, 0)) ∧ SlR (Rep.int .i64) (dT T [.box b2 [v3, .int .i64 y.At] 84]) w' v3 y.L) := by
  refine enter (c := _) Tryd.func29 rfl T 6 Tryd.ntmps29 hT rfl fun a hS => ?_
  replace hS := hS.fact (SlF (Rep.int .i64) v1 t_0) (SlR.dn hv1)
  unfold mill_Roll at hM
  refine wp_seq_k fun K3 hK3 => ?_
  refine r_list ?_
  refine wl rfl (ky (v := .pointer none) hS (y_assign hS rfl) rfl rfl fun a hS => ?_)
  refine wpList_nil ?_
  try simp only [Exit.then, Exit.inBlock, ↓reduceIte, Nat.reduceEqDiff]
  refine hK3 _ _ ?_
  refine wp_seq_k fun K4 hK4 => ?_
  refine r_list ?_
  refine wl rfl (ky (v := v1) hS (y_move hS rfl) rfl rfl fun a hS => ?_)
  refine wl rfl (ky (v := .agg #[v1, .int .i64 0]) hS (y_build (ps := [(0, .tmp 3)]) hS pl84 ze84 rfl (us := [[v1]]) ⟨(cells1 (SlR.one ((hS.get 0 rfl) : SlR (Rep.int .i64) _ _ _ _))), trivial⟩ (ws := [v1, .int .i64 0]) rfl) rfl rfl fun a hS => ?_)
  refine wl rfl (k_box hS rfl (cs := [v1, .int .i64 0]) rfl rfl fun b4 hnb6 a w hk hS => ?_)
  refine wl rfl (ky (v := .pointer (some ⟨b4, 0, none⟩)) hS (y_assign hS rfl) rfl rfl fun a hS => ?_)
  refine wpList_nil ?_
  try simp only [Exit.then, Exit.inBlock, ↓reduceIte, Nat.reduceEqDiff]
  refine hK4 _ _ ?_
  refine wp_ret ?_
  injection hM with hM
  subst hM
  try simp only [Exit.then, Exit.inBlock, ↓reduceIte, Nat.reduceEqDiff]
  refine ret_ok hS Tryd.results29 (res_tmp hS rfl res_nil) ?_
  exact ⟨b4, v1, rfl, hS.boxNew 0 rfl, hS.boxRow 0 rfl, (SlR.up ⟨.inr (List.mem_of_getElem? (i := 0) rfl), trivial⟩ (hS.get 0 rfl))⟩

noncomputable def dice_Next (d_0 : DiceD) (n_1 : Int) : Option (Int × DiceD) := cond (decide (((d_0.L.length : Int) : Int) ≤ d_0.At)) (some ((0, d_0))) ((getI d_0.L (IntKind.i64.wrap ((IntKind.i64.wrap (d_0.At + 1)) - 1))).bind fun e66 => (mill_Mod e66 n_1).bind fun u73 => some ((u73, (DiceD.mk d_0.L (IntKind.i64.wrap (d_0.At + 1))))))
set_option maxRecDepth 100000 in
set_option maxHeartbeats 4000000 in
theorem dice_Next_c (T : Nat → Prop) (W0 : World) (hT : ∀ k, T k → k < W0.heap.size) (d_0 : DiceD) (n_1 : Int) (v1 : Value) (b2 : Nat) (hb2 : W0.heap[b2]? = some (.cells #[v1, .int .i64 d_0.At] 84 (0, 0))) (hTb2 : ¬ T b2) (hv1 : SlR (Rep.int .i64) (dT T [.box b2 [v1, .int .i64 d_0.At] 84]) W0 v1 d_0.L) (y : Int × DiceD) (hM : dice_Next d_0 n_1 = some y) : Rets Tryd.prog (fun k => k = b2) 41 [.pointer (some ⟨b2, 0, none⟩), .int .i64 n_1] W0 (fun v w' => ∃ (v3 : Value), v = .int .i64 y.1 ∧ w'.heap[b2]? = some (.cells #[v3, .int .i64 y.2.At] 84 (0, 0)) ∧ SlR (Rep.int .i64) (dT T [.box b2 [v3, .int .i64 y.2.At] 84]) w' v3 y.2.L) := by
  refine enterm (c := _) Tryd.func41 rfl T 35 Tryd.ntmps41 hT rfl hb2 hTb2 fun a hS => ?_
  replace hS := hS.fact (SlF (Rep.int .i64) v1 d_0.L) hv1
  unfold dice_Next at hM
  refine wp_seq_k fun K7 hK7 => ?_
  refine r_list ?_
  refine wl rfl (ky (v := .int .i64 0) hS (y_assign hS rfl) rfl rfl fun a hS => ?_)
  refine wpList_nil ?_
  try simp only [Exit.then, Exit.inBlock, ↓reduceIte, Nat.reduceEqDiff]
  refine hK7 _ _ ?_
  refine wp_seq_k fun K8 hK8 => ?_
  refine wp_seq_k fun K9 hK9 => ?_
  refine draws [] hS mixed rfl (fun c a d v w h => by cases d <;> exact h) fun w hQ hS => ?_
  refine dy 0 (v := .pointer (some ⟨b2, 0, none⟩)) rfl (by kernel_rfl) (by kernel_rfl) (by kernel_rfl) rfl hQ hS (y_move hS rfl) rfl rfl rfl fun a hS => ?_
  refine dy 1 (v := .pointer (some ⟨b2, 0, none⟩)) rfl (by kernel_rfl) (by kernel_rfl) (by kernel_rfl) rfl hQ hS (y_nil hS rfl) rfl rfl rfl fun a hS => ?_
  refine dy 2 (v := .pointer (some ⟨b2, 0 + 1, none⟩)) rfl (by kernel_rfl) (by kernel_rfl) (by kernel_rfl) rfl hQ hS (y_fld hS rfl fl84_1) rfl rfl rfl fun a hS => ?_
  refine dy (l := []) 3 (v := .int .i64 d_0.At) rfl (by kernel_rfl) (by kernel_rfl) (by kernel_rfl) (by kernel_rfl) hQ hS (y_load hS rfl ty3 0 rfl eo_nil (us := [.int .i64 d_0.At]) rfl rfl (fun _ => rfl)) rfl rfl rfl fun a hS => ?_
  refine dy 4 (v := .pointer (some ⟨b2, 0, none⟩)) rfl (by kernel_rfl) (by kernel_rfl) (by kernel_rfl) rfl hQ hS (y_move hS rfl) rfl rfl rfl fun a hS => ?_
  refine dy 5 (v := .pointer (some ⟨b2, 0, none⟩)) rfl (by kernel_rfl) (by kernel_rfl) (by kernel_rfl) rfl hQ hS (y_nil hS rfl) rfl rfl rfl fun a hS => ?_
  refine dy 6 (v := .pointer (some ⟨b2, 0 + 0, none⟩)) rfl (by kernel_rfl) (by kernel_rfl) (by kernel_rfl) rfl hQ hS (y_fld hS rfl fl84_0) rfl rfl rfl fun a hS => ?_
  refine dy (l := []) 7 (v := v1) rfl (by kernel_rfl) (by kernel_rfl) (by kernel_rfl) (by kernel_rfl) hQ hS (y_load hS rfl ty44 0 rfl eo_nil (us := [v1]) rfl rfl (fun _ => rfl)) rfl rfl rfl fun a hS => ?_
  refine dy 8 (v := .int .i64 (d_0.L.length : Int)) rfl (by kernel_rfl) (by kernel_rfl) (by kernel_rfl) rfl hQ hS (y_len (R := (Rep.int .i64)) (xs := d_0.L) hS sl44 rfl 0 rfl) rfl rfl rfl fun a hS => ?_
  refine dy 9 (v := .bool (decide (((d_0.L.length : Int) : Int) ≤ d_0.At))) rfl (by kernel_rfl) (by kernel_rfl) (by kernel_rfl) rfl hQ hS (y_int hS rfl rfl rfl) rfl rfl rfl fun a hS => ?_
  refine wpE_done (by kernel_rfl) ?_ _
  try simp only [Exit.then, Exit.inBlock, ↓reduceIte, Nat.reduceEqDiff]
  refine hK9 _ _ ?_
  rcases bool2 (decide (((d_0.L.length : Int) : Int) ≤ d_0.At)) with hb38 | hb38
  · replace hM := ct hb38 hM
    refine c_t hS rfl hb38 ?_
    refine wp_seq_k fun K10 hK10 => ?_
    refine r_list ?_
    refine wl rfl (ky (v := .int .i64 0) hS (y_assign hS rfl) rfl rfl fun a hS => ?_)
    refine wpList_nil ?_
    try simp only [Exit.then, Exit.inBlock, ↓reduceIte, Nat.reduceEqDiff]
    refine hK10 _ _ ?_
    refine wp_ret ?_
    injection hM with hM
    subst hM
    try simp only [Exit.then, Exit.inBlock, ↓reduceIte, Nat.reduceEqDiff]
    refine ret_ok hS Tryd.results41 (res_tmp hS rfl res_nil) ?_
    exact ⟨v1, rfl, hS.boxRow 0 rfl, (SlR.up ⟨.inr (List.mem_of_getElem? (i := 0) rfl), trivial⟩ (hS.get 0 rfl))⟩
  · replace hM := cf hb38 hM
    refine c_f hS rfl hb38 ?_
    refine wp_skip ?_
    try simp only [Exit.then, Exit.inBlock, ↓reduceIte, Nat.reduceEqDiff]
    refine hK8 _ _ ?_
    refine wp_seq_k fun K11 hK11 => ?_
    refine r_list ?_
    refine wl rfl (ky (v := .pointer (some ⟨b2, 0, none⟩)) hS (y_move hS rfl) rfl rfl fun a hS => ?_)
    refine wl rfl (ky (v := .pointer (some ⟨b2, 0, none⟩)) hS (y_nil hS rfl) rfl rfl fun a hS => ?_)
    refine wl rfl (ky (v := .pointer (some ⟨b2, 0 + 1, none⟩)) hS (y_fld hS rfl fl84_1) rfl rfl fun a hS => ?_)
    refine wl rfl (ky (v := .int .i64 d_0.At) hS (y_load hS rfl ty3 0 rfl id (us := [.int .i64 d_0.At]) rfl rfl (fun _ => rfl)) rfl rfl fun a hS => ?_)
    refine wl rfl (ky (v := .int .i64 (IntKind.i64.wrap (d_0.At + 1))) hS (y_int hS rfl rfl rfl) rfl rfl fun a hS => ?_)
    refine wl rfl (ky (v := .pointer (some ⟨b2, 0, none⟩)) hS (y_nil hS rfl) rfl rfl fun a hS => ?_)
    refine wl rfl (ky (v := .pointer (some ⟨b2, 0 + 1, none⟩)) hS (y_fld hS rfl fl84_1) rfl rfl fun a hS => ?_)
    refine wl rfl (k_store hS rfl rfl (us := [.int .i64 (IntKind.i64.wrap (d_0.At + 1))]) rfl ty3 0 rfl rfl rfl (oc rfl on) fun w hk hS => ?_)
    refine wpList_nil ?_
    try simp only [Exit.then, Exit.inBlock, ↓reduceIte, Nat.reduceEqDiff]
    refine hK11 _ _ ?_
    refine wp_seq_k fun K12 hK12 => ?_
    refine draws [] hS mixed rfl (fun c a d v w h => by cases d <;> exact h) fun w hQ hS => ?_
    refine dy 0 (v := .pointer (some ⟨b2, 0, none⟩)) rfl (by kernel_rfl) (by kernel_rfl) (by kernel_rfl) rfl hQ hS (y_move hS rfl) rfl rfl rfl fun a hS => ?_
    refine dy 1 (v := .pointer (some ⟨b2, 0, none⟩)) rfl (by kernel_rfl) (by kernel_rfl) (by kernel_rfl) rfl hQ hS (y_nil hS rfl) rfl rfl rfl fun a hS => ?_
    refine dy 2 (v := .pointer (some ⟨b2, 0 + 0, none⟩)) rfl (by kernel_rfl) (by kernel_rfl) (by kernel_rfl) rfl hQ hS (y_fld hS rfl fl84_0) rfl rfl rfl fun a hS => ?_
    refine dy (l := []) 3 (v := v1) rfl (by kernel_rfl) (by kernel_rfl) (by kernel_rfl) (by kernel_rfl) hQ hS (y_load hS rfl ty44 0 rfl eo_nil (us := [v1]) rfl rfl (fun _ => rfl)) rfl rfl rfl fun a hS => ?_
    refine dy 4 (v := .pointer (some ⟨b2, 0, none⟩)) rfl (by kernel_rfl) (by kernel_rfl) (by kernel_rfl) rfl hQ hS (y_move hS rfl) rfl rfl rfl fun a hS => ?_
    refine dy 5 (v := .pointer (some ⟨b2, 0, none⟩)) rfl (by kernel_rfl) (by kernel_rfl) (by kernel_rfl) rfl hQ hS (y_nil hS rfl) rfl rfl rfl fun a hS => ?_
    refine dy 6 (v := .pointer (some ⟨b2, 0 + 1, none⟩)) rfl (by kernel_rfl) (by kernel_rfl) (by kernel_rfl) rfl hQ hS (y_fld hS rfl fl84_1) rfl rfl rfl fun a hS => ?_
    refine dy (l := []) 7 (v := .int .i64 (IntKind.i64.wrap (d_0.At + 1))) rfl (by kernel_rfl) (by kernel_rfl) (by kernel_rfl) (by kernel_rfl) hQ hS (y_load hS rfl ty3 0 rfl eo_nil (us := [.int .i64 (IntKind.i64.wrap (d_0.At + 1))]) rfl rfl (fun _ => rfl)) rfl rfl rfl fun a hS => ?_
    refine dy 8 (v := .int .i64 (IntKind.i64.wrap ((IntKind.i64.wrap (d_0.At + 1)) - 1))) rfl (by kernel_rfl) (by kernel_rfl) (by kernel_rfl) rfl hQ hS (y_int hS rfl rfl rfl) rfl rfl rfl fun a hS => ?_
    obtain ⟨e66, he66, hM⟩ := bd hM
    obtain ⟨b67, o68, cs70, hr69, hy72, hS⟩ := d_index (R := (Rep.int .i64)) hS sl44 ty3 0 rfl he66
    obtain rfl := hr69
    refine dy 9 (v := .pointer (some ⟨b67, o68, none⟩)) rfl (by kernel_rfl) (by kernel_rfl) (by kernel_rfl) rfl hQ hS (hy72 rfl rfl) rfl rfl rfl fun a hS => ?_
    refine dy (l := []) 10 (v := .int .i64 e66) rfl (by kernel_rfl) (by kernel_rfl) (by kernel_rfl) (by kernel_rfl) hQ hS (y_loadc (k := 0) hS ty3 0 rfl rfl es_nil (us := [.int .i64 e66]) rfl rfl (fun _ => rfl)) rfl rfl rfl fun a hS => ?_
    refine dy 11 (v := .int .i64 n_1) rfl (by kernel_rfl) (by kernel_rfl) (by kernel_rfl) rfl hQ hS (y_move hS rfl) rfl rfl rfl fun a hS => ?_
    obtain ⟨u73, hu73, hM⟩ := bd hM
    refine wpE_one (i := 12) rfl (by kernel_rfl) rfl (k_call hS ci18 rfl rfl (mill_Mod_c _ _ hS.dlt e66 n_1 _ hu73) fun _ w hR a hk hA => ⟨stN (hk), ?_⟩)
    have he := Eq.symm hR
    subst he
    have hS := hA [] (fun r hr => by cases hr) List.Pairwise.nil
    refine dy 13 (v := .int .i64 u73) rfl (by kernel_rfl) (by kernel_rfl) (by kernel_rfl) rfl hQ hS (y_assign hS rfl) rfl rfl rfl fun a hS => ?_
    refine wpE_done (by kernel_rfl) ?_ _
    try simp only [Exit.then, Exit.inBlock, ↓reduceIte, Nat.reduceEqDiff]
    refine hK12 _ _ ?_
    refine wp_ret ?_
    injection hM with hM
    subst hM
    try simp only [Exit.then, Exit.inBlock, ↓reduceIte, Nat.reduceEqDiff]
    refine ret_ok hS Tryd.results41 (res_tmp hS rfl res_nil) ?_
    exact ⟨v1, rfl, hS.boxRow 0 rfl, (SlR.up ⟨.inr (List.mem_of_getElem? (i := 0) rfl), trivial⟩ (hS.get 1 rfl))⟩

noncomputable def dice_Word (d_0 : DiceD) (l_1 : (List ByteArray)) : Option (ByteArray × DiceD) := (dice_Next d_0 (l_1.length : Int)).bind fun u9 => (getI l_1 u9.1).bind fun e11 => some ((e11, (DiceD.mk u9.2.L u9.2.At)))
set_option maxRecDepth 100000 in
set_option maxHeartbeats 4000000 in
theorem dice_Word_c (T : Nat → Prop) (W0 : World) (hT : ∀ k, T k → k < W0.heap.size) (d_0 : DiceD) (l_1 : (List ByteArray)) (v1 : Value) (v3 : Value) (b2 : Nat) (hb2 : W0.heap[b2]? = some (.cells #[v1, .int .i64 d_0.At] 84 (0, 0))) (hTb2 : ¬ T b2) (hv1 : SlR (Rep.int .i64) (dT T [.box b2 [v1, .int .i64 d_0.At] 84]) W0 v1 d_0.L) (hv3 : SlR Rep.str (dT T [.box b2 [v1, .int .i64 d_0.At] 84]) W0 v3 l_1) (y : ByteArray × DiceD) (hM : dice_Word d_0 l_1 = some y) : Rets Tryd.prog (fun k => k = b2) 34 [.pointer (some ⟨b2, 0, none⟩), v3] W0 (fun v w' => ∃ (v4 : Value), v = .string y.1 ∧ w'.heap[b2]? = some (.cells #[v4, .int .i64 y.2.At] 84 (0, 0)) ∧ SlR (Rep.int .i64) (dT T [.box b2 [v4, .int .i64 y.2.At] 84]) w' v4 y.2.L) := by
  refine enterm (c := _) Tryd.func34 rfl T 12 Tryd.ntmps34 hT rfl hb2 hTb2 fun a hS => ?_
  replace hS := hS.fact (SlF (Rep.int .i64) v1 d_0.L) hv1
  replace hS := hS.fact (SlF Rep.str v3 l_1) hv3
  unfold dice_Word at hM
  refine wp_seq_k fun K3 hK3 => ?_
  refine r_list ?_
  refine wl rfl (ky (v := .string (ByteArray.mk #[])) hS (y_assign hS rfl) rfl rfl fun a hS => ?_)
  refine wpList_nil ?_
  try simp only [Exit.then, Exit.inBlock, ↓reduceIte, Nat.reduceEqDiff]
  refine hK3 _ _ ?_
  refine wp_seq_k fun K4 hK4 => ?_
  refine r_list ?_
  refine wl rfl (ky (v := v3) hS (y_move hS rfl) rfl rfl fun a hS => ?_)
  refine wl rfl (ky (v := .pointer (some ⟨b2, 0, none⟩)) hS (y_move hS rfl) rfl rfl fun a hS => ?_)
  refine wl rfl (ky (v := v3) hS (y_move hS rfl) rfl rfl fun a hS => ?_)
  refine wl rfl (ky (v := .int .i64 (l_1.length : Int)) hS (y_len (R := Rep.str) (xs := l_1) hS sl65 rfl 0 rfl) rfl rfl fun a hS => ?_)
  obtain ⟨u9, hu9, hM⟩ := bd hM
  refine wl rfl (k_callm hS ci41 rfl rfl 0 rfl (dice_Next_c _ _ (hS.drop 0).dlt d_0 (l_1.length : Int) _ _ (hS.boxRow 0 rfl) (hS.notin 0 rfl) (SlR.lent (i := 0) rfl (hS.get 1 rfl)) _ hu9) fun _ w hR hk => ?_)
  obtain ⟨vz10_3, he, hrow, hRvz10_3⟩ := hR
  replace he := he.symm
  subst he
  refine ⟨[vz10_3, .int .i64 u9.2.At], hrow, fun a hS => ?_⟩
  replace hS := hS.fact (SlF (Rep.int .i64) vz10_3 u9.2.L) (SlR.back (i := 0) rfl hRvz10_3)
  obtain ⟨e11, he11, hM⟩ := bd hM
  refine wl rfl (k_index (R := Rep.str) hS sl65 ty9 rfl rfl 1 rfl he11 rfl fun b12 o13 cs15 hr14 a hS => ?_)
  obtain rfl := hr14
  refine wl rfl (ky (v := .string e11) hS (y_loadc (k := 0) hS ty9 0 rfl rfl (fun _ h => h.elim) (us := [.string e11]) rfl rfl (fun _ => rfl)) rfl rfl fun a hS => ?_)
  refine wl rfl (ky (v := .string e11) hS (y_assign hS rfl) rfl rfl fun a hS => ?_)
  refine wpList_nil ?_
  try simp only [Exit.then, Exit.inBlock, ↓reduceIte, Nat.reduceEqDiff]
  refine hK4 _ _ ?_
  refine wp_ret ?_
  injection hM with hM
  subst hM
  try simp only [Exit.then, Exit.inBlock, ↓reduceIte, Nat.reduceEqDiff]
  refine ret_ok hS Tryd.results34 (res_tmp hS rfl res_nil) ?_
  exact ⟨vz10_3, rfl, hS.boxRow 0 rfl, (SlR.up ⟨.inr (List.mem_of_getElem? (i := 0) rfl), trivial⟩ (hS.get 1 rfl))⟩

noncomputable def mill_Rules_j1 (l15640 : (List RuleD)) (d15644 : (List Int)) (d15646 : Int) : Option ((List RuleD) × DiceD) := some ((l15640, (DiceD.mk d15644 d15646)))
noncomputable def mill_Rules_j2 (g18225 : Int) (l22083 : (List RuleD)) (d22087 : (List Int)) (d22089 : Int) : Option (Fl ((List RuleD) × Int × (List Int) × Int) ((List RuleD) × (List Int) × Int)) := some (.go (l22083, IntKind.i64.wrap (g18225 + 1), d22087, d22089))
noncomputable def mill_Rules_j3 (l18221 : (List RuleD)) (g18225 : Int) (r22180 : Bool) (r22209 : Int) (r22210 : Int) (d22747 : (List Int)) (d22749 : Int) (r22750 : (List AskD)) : Option (Fl ((List RuleD) × Int × (List Int) × Int) ((List RuleD) × (List Int) × Int)) := (getI l18221 g18225).bind fun e22754 => mill_Rules_j2 g18225 (l18221.set (Int.toNat g18225) (RuleD.mk r22180 r22750 r22209 r22210)) d22747 d22749
noncomputable def mill_Rules_j4 (k23030 : Int) (d23425 : (List Int)) (d23427 : Int) (r23428 : (List AskD)) : Option (Fl (Int × (List Int) × Int × (List AskD)) ((List Int) × Int × (List AskD))) := some (.go (IntKind.i64.wrap (k23030 - 1), d23425, d23427, r23428))
noncomputable def mill_Rules_j5 (k23030 : Int) (r23034 : (List AskD)) (x23455 : Bool) (x23479 : Int) (d23499 : (List Int)) (d23501 : Int) (x23502 : Bool) (x23503 : Int) : Option (Fl (Int × (List Int) × Int × (List AskD)) ((List Int) × Int × (List AskD))) := gd (roomB (r23034.length + ([(AskD.mk x23455 x23502 x23479 x23503)]).length)) <| mill_Rules_j4 k23030 d23499 d23501 (r23034 ++ ([(AskD.mk x23455 x23502 x23479 x23503)]))
noncomputable def mill_Rules_j6 (k23030 : Int) (r23034 : (List AskD)) (x23455 : Bool) (most23457 : Int) (x23479 : Int) (g23518 : Bool) (d23519 : (List Int)) (d23521 : Int) : Option (Fl (Int × (List Int) × Int × (List AskD)) ((List Int) × Int × (List AskD))) := cond g23518 ((dice_Next (DiceD.mk d23519 d23521) most23457).bind fun u23523 => mill_Rules_j5 k23030 r23034 x23455 x23479 u23523.2.L u23523.2.At true u23523.1) (mill_Rules_j5 k23030 r23034 x23455 x23479 d23519 d23521 false 0)
noncomputable def mill_Rules_j7 (r22180 : Bool) (k23030 : Int) (r23034 : (List AskD)) (x23455 : Bool) (most23457 : Int) (d23476 : (List Int)) (d23478 : Int) (x23479 : Int) : Option (Fl (Int × (List Int) × Int × (List AskD)) ((List Int) × Int × (List AskD))) := cond (!(r22180)) (cond (decide ((0 : Int) < (r23034.length : Int))) ((dice_Next (DiceD.mk d23476 d23478) 3).bind fun u23527 => mill_Rules_j6 k23030 r23034 x23455 most23457 x23479 ((u23527.1 : Int) == 1) u23527.2.L u23527.2.At) (mill_Rules_j6 k23030 r23034 x23455 most23457 x23479 false d23476 d23478)) (mill_Rules_j6 k23030 r23034 x23455 most23457 x23479 false d23476 d23478)
noncomputable def mill_Rules_j8 (r22180 : Bool) (k23030 : Int) (r23034 : (List AskD)) (x23455 : Bool) (most23457 : Int) (u23458 : (Int × DiceD)) (g23535 : Bool) (d23536 : (List Int)) (d23538 : Int) : Option (Fl (Int × (List Int) × Int × (List AskD)) ((List Int) × Int × (List AskD))) := cond g23535 ((dice_Next (DiceD.mk d23536 d23538) (min most23457 3)).bind fun u23540 => mill_Rules_j7 r22180 k23030 r23034 x23455 most23457 u23540.2.L u23540.2.At (IntKind.i64.wrap ((IntKind.i64.wrap (most23457 - 1)) - u23540.1))) (mill_Rules_j7 r22180 k23030 r23034 x23455 most23457 d23536 d23538 u23458.1)
noncomputable def mill_Rules_j9 (r22180 : Bool) (k23030 : Int) (r23034 : (List AskD)) (d23452 : (List Int)) (d23454 : Int) (x23455 : Bool) (most23457 : Int) : Option (Fl (Int × (List Int) × Int × (List AskD)) ((List Int) × Int × (List AskD))) := (dice_Next (DiceD.mk d23452 d23454) most23457).bind fun u23458 => cond (!(x23455)) ((dice_Next (DiceD.mk u23458.2.L u23458.2.At) 2).bind fun u23543 => mill_Rules_j8 r22180 k23030 r23034 x23455 most23457 u23458 ((u23543.1 : Int) == 0) u23543.2.L u23543.2.At) (mill_Rules_j8 r22180 k23030 r23034 x23455 most23457 u23458 false u23458.2.L u23458.2.At)
noncomputable def mill_Rules_j10 (b22102 : Int) (r22180 : Bool) (k23030 : Int) (r23034 : (List AskD)) (d23452 : (List Int)) (d23454 : Int) (x23455 : Bool) : Option (Fl (Int × (List Int) × Int × (List AskD)) ((List Int) × Int × (List AskD))) := cond x23455 (mill_Rules_j9 r22180 k23030 r23034 d23452 d23454 x23455 4) (mill_Rules_j9 r22180 k23030 r23034 d23452 d23454 x23455 b22102)
noncomputable def mill_Rules_l11 (b22102 : Int) (r22180 : Bool) (k23030 : Int) (d23031 : (List Int)) (d23033 : Int) (r23034 : (List AskD)) : Option (Fl (Int × (List Int) × Int × (List AskD)) ((List Int) × Int × (List AskD))) := cond (decide ((0 : Int) < k23030)) ((dice_Next (DiceD.mk d23031 d23033) 3).bind fun u23546 => cond ((u23546.1 : Int) == 0) (mill_Rules_j10 b22102 r22180 k23030 r23034 u23546.2.L u23546.2.At true) (mill_Rules_j10 b22102 r22180 k23030 r23034 u23546.2.L u23546.2.At ((b22102 : Int) == 0))) (some (.out (d23031, d23033, r23034)))
noncomputable def mill_Rules_j12 (l18221 : (List RuleD)) (g18225 : Int) (b22102 : Int) (r22180 : Bool) (d22206 : (List Int)) (d22208 : Int) (r22209 : Int) (r22210 : Int) : Option (Fl ((List RuleD) × Int × (List Int) × Int) ((List RuleD) × (List Int) × Int)) := (dice_Next (DiceD.mk d22206 d22208) 4).bind fun u22764 => (loop (fun s : Int × (List Int) × Int × (List AskD) => mill_Rules_l11 b22102 r22180 s.1 s.2.1 s.2.2.1 s.2.2.2) (u22764.1, u22764.2.L, u22764.2.At, ([] : List AskD))).bind fun r => mill_Rules_j3 l18221 g18225 r22180 r22209 r22210 r.1 r.2.1 r.2.2
noncomputable def mill_Rules_j13 (l18221 : (List RuleD)) (g18225 : Int) (b22102 : Int) (d22177 : (List Int)) (d22179 : Int) (r22180 : Bool) (r22181 : Int) (r22182 : Int) : Option (Fl ((List RuleD) × Int × (List Int) × Int) ((List RuleD) × (List Int) × Int)) := cond r22180 ((dice_Next (DiceD.mk d22177 d22179) 6).bind fun u23567 => (getI ([0, 1, 2, 4, 8, 16]) u23567.1).bind fun e23571 => mill_Rules_j12 l18221 g18225 b22102 r22180 u23567.2.L u23567.2.At 5 e23571) (mill_Rules_j12 l18221 g18225 b22102 r22180 d22177 d22179 r22181 r22182)
noncomputable def mill_Rules_j14 (l18221 : (List RuleD)) (g18225 : Int) (d18226 : (List Int)) (d18228 : Int) (b22102 : Int) : Option (Fl ((List RuleD) × Int × (List Int) × Int) ((List RuleD) × (List Int) × Int)) := (getI l18221 g18225).bind fun e23596 => (dice_Next (DiceD.mk d18226 d18228) 4).bind fun u23606 => (dice_Next (DiceD.mk u23606.2.L u23606.2.At) 6).bind fun u23608 => mill_Rules_j13 l18221 g18225 b22102 u23608.2.L u23608.2.At e23596.Ring (IntKind.i64.wrap (1 + u23606.1)) u23608.1
noncomputable def mill_Rules_l15 (l10477 : (List RuleD)) (l18221 : (List RuleD)) (g18225 : Int) (d18226 : (List Int)) (d18228 : Int) : Option (Fl ((List RuleD) × Int × (List Int) × Int) ((List RuleD) × (List Int) × Int)) := cond (decide ((g18225 : Int) < (l10477.length : Int))) ((ref24_Block l18221 g18225).bind fun u22090 => (getI l18221 g18225).bind fun e23614 => cond (!(e23614.Ring)) (mill_Rules_j14 l18221 g18225 d18226 d18228 u22090.1) (mill_Rules_j14 l18221 g18225 d18226 d18228 u22090.2)) (some (.out (l18221, d18226, d18228)))
noncomputable def mill_Rules_j16 (l10477 : (List RuleD)) (d10481 : (List Int)) (d10483 : Int) : Option ((List RuleD) × DiceD) := (loop (fun s : (List RuleD) × Int × (List Int) × Int => mill_Rules_l15 l10477 s.1 s.2.1 s.2.2.1 s.2.2.2) (l10477, 0, d10481, d10483)).bind fun r => mill_Rules_j1 r.1 r.2.1 r.2.2
noncomputable def mill_Rules_l17 (l23644 : (List RuleD)) (n23648 : Int) (d23649 : (List Int)) (d23651 : Int) : Option (Fl ((List RuleD) × Int × (List Int) × Int) ((List RuleD) × (List Int) × Int)) := cond (decide ((0 : Int) < n23648)) ((dice_Next (DiceD.mk d23649 d23651) 3).bind fun u23671 => gd (roomB (l23644.length + ([(RuleD.mk ((u23671.1 : Int) == 1) ([]) 0 0)]).length)) <| some (.go ((l23644 ++ ([(RuleD.mk ((u23671.1 : Int) == 1) ([]) 0 0)])), IntKind.i64.wrap (n23648 - 1), u23671.2.L, u23671.2.At))) (some (.out (l23644, d23649, d23651)))
noncomputable def mill_Rules (d_0 : DiceD) : Option ((List RuleD) × DiceD) := (dice_Next d_0 7).bind fun u23624 => (loop (fun s : (List RuleD) × Int × (List Int) × Int => mill_Rules_l17 s.1 s.2.1 s.2.2.1 s.2.2.2) (([] : List RuleD), IntKind.i64.wrap (2 + u23624.1), u23624.2.L, u23624.2.At)).bind fun r => mill_Rules_j16 r.1 r.2.1 r.2.2
set_option maxRecDepth 100000 in
set_option maxHeartbeats 4000000 in
theorem mill_Rules_c (T : Nat → Prop) (W0 : World) (hT : ∀ k, T k → k < W0.heap.size) (d_0 : DiceD) (v1 : Value) (b2 : Nat) (hb2 : W0.heap[b2]? = some (.cells #[v1, .int .i64 d_0.At] 84 (0, 0))) (hTb2 : ¬ T b2) (hv1 : SlR (Rep.int .i64) (dT T [.box b2 [v1, .int .i64 d_0.At] 84]) W0 v1 d_0.L) (y : (List RuleD) × DiceD) (hM : mill_Rules d_0 = some y) : Rets Tryd.prog (fun k => k = b2) 28 [.pointer (some ⟨b2, 0, none⟩)] W0 (fun v w' => ∃ (v3 : Value) (cl4 : List Value) (v5 : Value), v = v3 ∧ OwnR R_RuleD T W0 w' [.own v3 53 R_RuleD.size cl4, .box b2 [v5, .int .i64 y.2.At] 84] 53 v3 cl4 y.1 ∧ w'.heap[b2]? = some (.cells #[v5, .int .i64 y.2.At] 84 (0, 0)) ∧ SlR (Rep.int .i64) (dT T [.own v3 53 R_RuleD.size cl4, .box b2 [v5, .int .i64 y.2.At] 84]) w' v5 y.2.L) := by
  refine enterm (c := _) Tryd.func28 rfl T 132 Tryd.ntmps28 hT rfl hb2 hTb2 fun a hS => ?_
  replace hS := hS.fact (SlF (Rep.int .i64) v1 d_0.L) hv1
  unfold mill_Rules at hM
  refine wp_seq_k fun K412 hK412 => ?_
  refine r_list ?_
  refine wl rfl (ky (v := .slice none 0 0) hS (y_assign hS rfl) rfl rfl fun a hS => ?_)
  refine wpList_nil ?_
  try simp only [Exit.then, Exit.inBlock, ↓reduceIte, Nat.reduceEqDiff]
  refine hK412 _ _ ?_
  refine wp_seq_k fun K413 hK413 => ?_
  refine r_list ?_
  refine wl rfl (ky (v := .slice none 0 0) hS (y_assign hS rfl) rfl rfl fun a hS => ?_)
  refine wpList_nil ?_
  try simp only [Exit.then, Exit.inBlock, ↓reduceIte, Nat.reduceEqDiff]
  refine hK413 _ _ ?_
  refine seq_j (J := fun a w => ∃ (l10477 : (List RuleD)) (d10481 : (List Int)) (d10483 : Int) (v10478 : Value) (cl10479 : (List Value)) (v10482 : Value), St W0 (fun k => k = b2) T 132 [(0, .pointer (some ⟨b2, 0, none⟩)), (3, v10478)] [.own v10478 53 R_RuleD.size cl10479, .box b2 [v10482, .int .i64 d10483] 84] [RowsF R_RuleD cl10479 l10477, SlF (Rep.int .i64) v10482 d10481] a w ∧ mill_Rules_j16 l10477 d10481 d10483 = some y) ?_ ?_
  · skip
    refine wp_seq_k fun K924 hK924 => ?_
    refine r_list ?_
    refine wl rfl (ky (v := .pointer (some ⟨b2, 0, none⟩)) hS (y_move hS rfl) rfl rfl fun a hS => ?_)
    obtain ⟨u23624, hu23624, hM⟩ := bd hM
    refine wl rfl (k_callm hS ci41 rfl rfl 0 rfl (dice_Next_c _ _ (hS.drop 0).dlt d_0 7 _ _ (hS.boxRow 0 rfl) (hS.notin 0 rfl) (SlR.lent (i := 0) rfl (hS.get 0 rfl)) _ hu23624) fun _ w hR hk => ?_)
    obtain ⟨vz23625_3, he, hrow, hRvz23625_3⟩ := hR
    replace he := he.symm
    subst he
    refine ⟨[vz23625_3, .int .i64 u23624.2.At], hrow, fun a hS => ?_⟩
    replace hS := hS.fact (SlF (Rep.int .i64) vz23625_3 u23624.2.L) (SlR.back (i := 0) rfl hRvz23625_3)
    refine wl rfl (ky (v := .int .i64 (IntKind.i64.wrap (2 + u23624.1))) hS (y_int hS rfl rfl rfl) rfl rfl fun a hS => ?_)
    refine wl rfl (ky (v := .int .i64 (IntKind.i64.wrap (2 + u23624.1))) hS (y_assign hS rfl) rfl rfl fun a hS => ?_)
    refine wpList_nil ?_
    try simp only [Exit.then, Exit.inBlock, ↓reduceIte, Nat.reduceEqDiff]
    refine hK924 _ _ ?_
    refine wp_block ?_
    replace hS := hS.nilRow R_RuleD 53 (by decide)
    obtain ⟨r1, hl1, hMo1⟩ := bd hM
    refine wp_lp (fun s : (List RuleD) × Int × (List Int) × Int => mill_Rules_l17 s.1 s.2.1 s.2.2.1 s.2.2.2) (fun s a w => ∃ (l23644 : (List RuleD)) (n23648 : Int) (d23649 : (List Int)) (d23651 : Int) (v23645 : Value) (cl23646 : (List Value)) (v23650 : Value), (l23644, n23648, d23649, d23651) = s ∧ St W0 (fun k => k = b2) T 132 [(0, .pointer (some ⟨b2, 0, none⟩)), (3, v23645), (4, .int .i64 n23648)] [.own v23645 53 R_RuleD.size cl23646, .box b2 [v23650, .int .i64 d23651] 84] [RowsF R_RuleD cl23646 l23644, SlF (Rep.int .i64) v23650 d23649] a w) hl1 ⟨([] : List RuleD), (IntKind.i64.wrap (2 + u23624.1)), u23624.2.L, u23624.2.At, (.slice none 0 0), ([]), vz23625_3, rfl, (hS.meet [0, 1] (by decide) ⟨rfl, rfl, rfl, trivial⟩ ⟨rfl, rfl, trivial⟩ ⟨⟨0, rfl⟩, ⟨1, rfl⟩, trivial⟩)⟩ ?_
    rintro s a w f1 ⟨l23644, n23648, d23649, d23651, v23645, cl23646, v23650, rfl, hS⟩ hM hf1
    have hM : mill_Rules_l17 l23644 n23648 d23649 d23651 = some f1 := hM
    unfold mill_Rules_l17 at hM
    refine wp_seq_k fun K931 hK931 => ?_
    refine wp_seq_k fun K932 hK932 => ?_
    refine r_list ?_
    refine wl rfl (ky (v := .int .i64 n23648) hS (y_move hS rfl) rfl rfl fun a hS => ?_)
    refine wl rfl (ky (v := .bool (decide ((0 : Int) < n23648))) hS (y_int hS rfl rfl rfl) rfl rfl fun a hS => ?_)
    refine wpList_nil ?_
    try simp only [Exit.then, Exit.inBlock, ↓reduceIte, Nat.reduceEqDiff]
    refine hK932 _ _ ?_
    rcases bool2 (decide ((0 : Int) < n23648)) with hb23670 | hb23670
    · replace hM := ct hb23670 hM
      refine c_t hS rfl hb23670 ?_
      refine wp_skip ?_
      try simp only [Exit.then, Exit.inBlock, ↓reduceIte, Nat.reduceEqDiff]
      refine hK931 _ _ ?_
      refine wp_seq_k fun K933 hK933 => ?_
      refine wp_block ?_
      refine r_list ?_
      refine wl rfl (ky (v := v23645) hS (y_move hS rfl) rfl rfl fun a hS => ?_)
      refine wl rfl (ky (v := .pointer (some ⟨b2, 0, none⟩)) hS (y_move hS rfl) rfl rfl fun a hS => ?_)
      obtain ⟨u23671, hu23671, hM⟩ := bd hM
      refine wl rfl (k_callm hS ci41 rfl rfl 1 rfl (dice_Next_c _ _ (hS.drop 1).dlt (DiceD.mk d23649 d23651) 3 _ _ (hS.boxRow 1 rfl) (hS.notin 1 rfl) (SlR.lent (i := 1) rfl (hS.get 1 rfl)) _ hu23671) fun _ w hR hk => ?_)
      obtain ⟨vz23672_3, he, hrow, hRvz23672_3⟩ := hR
      replace he := he.symm
      subst he
      refine ⟨[vz23672_3, .int .i64 u23671.2.At], hrow, fun a hS => ?_⟩
      replace hS := hS.fact (SlF (Rep.int .i64) vz23672_3 u23671.2.L) (SlR.back (i := 1) rfl hRvz23672_3)
      refine wl rfl (ky (v := .bool ((u23671.1 : Int) == 1)) hS (y_int hS rfl rfl rfl) rfl rfl fun a hS => ?_)
      refine wl rfl (ky (v := .agg #[.bool ((u23671.1 : Int) == 1), .slice none 0 0, .int .i64 0, .int .i64 0]) hS (y_build (ps := [(0, .tmp 22)]) hS pl53 ze53 rfl (us := [[.bool ((u23671.1 : Int) == 1)]]) ⟨rfl, trivial⟩ (ws := [.bool ((u23671.1 : Int) == 1), .slice none 0 0, .int .i64 0, .int .i64 0]) rfl) rfl rfl fun a hS => ?_)
      refine wl rfl (k_bslice (ps := [(0, .tmp 23)]) hS el49 ze53 (zl := [.bool false, .slice none 0 0, .int .i64 0, .int .i64 0]) (by kernel_rfl) rfl (us := [[.bool ((u23671.1 : Int) == 1), .slice none 0 0, .int .i64 0, .int .i64 0]]) ⟨rfl, trivial⟩ (ws := [.bool ((u23671.1 : Int) == 1), .slice none 0 0, .int .i64 0, .int .i64 0]) rfl rfl rfl rfl fun b23673 a w hk hS => ?_)
      replace hS := hS.lit (R := R_RuleD) (us := [.bool ((u23671.1 : Int) == 1), .slice none 0 0, .int .i64 0, .int .i64 0]) (xs := [(RuleD.mk ((u23671.1 : Int) == 1) ([]) 0 0)]) 0 rfl (by decide) (RowsOk.one_ (R := R_RuleD) (x := (RuleD.mk ((u23671.1 : Int) == 1) ([]) 0 0)) (⟨_, rfl, SlR.nil_ _ _ _⟩)) rfl rfl
      replace hS := hS.freeze (R := R_RuleD) 0 rfl 0 rfl
      obtain ⟨hg23675, hM⟩ := gd_some hM
      refine wl rfl (k_apps (R := R_RuleD) (xs := l23644) (ys := [(RuleD.mk ((u23671.1 : Int) == 1) ([]) 0 0)]) hS el49 (by decide) (by decide) rfl rfl 0 rfl 3 rfl 0 rfl hg23675 rfl fun v23676 cl23677 a w hk hS => ?_)
      refine wl rfl (ky (v := v23676) hS (y_assign hS rfl) rfl rfl fun a hS => ?_)
      refine wpList_nil ?_
      try simp only [Exit.then, Exit.inBlock, ↓reduceIte, Nat.reduceEqDiff]
      refine hK933 _ _ ?_
      refine r_list ?_
      refine wl rfl (ky (v := .int .i64 n23648) hS (y_move hS rfl) rfl rfl fun a hS => ?_)
      refine wl rfl (ky (v := .int .i64 (IntKind.i64.wrap (n23648 - 1))) hS (y_int hS rfl rfl rfl) rfl rfl fun a hS => ?_)
      refine wl rfl (ky (v := .int .i64 (IntKind.i64.wrap (n23648 - 1))) hS (y_assign hS rfl) rfl rfl fun a hS => ?_)
      refine wpList_nil ?_
      try simp only [Exit.then, Exit.inBlock, ↓reduceIte, Nat.reduceEqDiff]
      exact ⟨((l23644 ++ ([(RuleD.mk ((u23671.1 : Int) == 1) ([]) 0 0)])), IntKind.i64.wrap (n23648 - 1), u23671.2.L, u23671.2.At), (Option.some.inj hM).symm, (l23644 ++ ([(RuleD.mk ((u23671.1 : Int) == 1) ([]) 0 0)])), (IntKind.i64.wrap (n23648 - 1)), u23671.2.L, u23671.2.At, v23676, cl23677, vz23672_3, rfl, (hS.meet [0, 1] (by decide) ⟨rfl, rfl, rfl, trivial⟩ ⟨rfl, rfl, trivial⟩ ⟨⟨0, rfl⟩, ⟨3, rfl⟩, trivial⟩)⟩
    · replace hM := cf hb23670 hM
      refine c_f hS rfl hb23670 ?_
      refine wp_exit ?_
      try simp only [Exit.then, Exit.inBlock, ↓reduceIte, Nat.reduceEqDiff]
      injection hM with hM
      subst hM
      have hr := hf1 _ rfl
      subst hr
      have hM : mill_Rules_j16 l23644 d23649 d23651 = some y := hMo1
      exact ⟨l23644, d23649, d23651, v23645, cl23646, v23650, (hS.meet [0, 1] (by decide) ⟨rfl, rfl, trivial⟩ ⟨rfl, rfl, trivial⟩ ⟨⟨0, rfl⟩, ⟨1, rfl⟩, trivial⟩), hM⟩
  · rintro a w ⟨l10477, d10481, d10483, v10478, cl10479, v10482, hS, hM⟩
    unfold mill_Rules_j16 at hM
    refine seq_j (J := fun a w => ∃ (l15640 : (List RuleD)) (d15644 : (List Int)) (d15646 : Int) (v15641 : Value) (cl15642 : (List Value)) (v15645 : Value), St W0 (fun k => k = b2) T 132 [(3, v15641)] [.own v15641 53 R_RuleD.size cl15642, .box b2 [v15645, .int .i64 d15646] 84] [RowsF R_RuleD cl15642 l15640, SlF (Rep.int .i64) v15645 d15644] a w ∧ mill_Rules_j1 l15640 d15644 d15646 = some y) ?_ ?_
    · skip
      refine wp_seq_k fun K619 hK619 => ?_
      refine r_list ?_
      refine wl rfl (ky (v := v10478) hS (y_move hS rfl) rfl rfl fun a hS => ?_)
      refine wl rfl (ky (v := .int .i64 (l10477.length : Int)) hS (y_leno (R := R_RuleD) (xs := l10477) hS sl49 rfl 0 rfl 0 rfl) rfl rfl fun a hS => ?_)
      refine wl rfl (ky (v := .int .i64 0) hS (y_move hS rfl) rfl rfl fun a hS => ?_)
      refine wpList_nil ?_
      try simp only [Exit.then, Exit.inBlock, ↓reduceIte, Nat.reduceEqDiff]
      refine hK619 _ _ ?_
      refine wp_block ?_
      obtain ⟨r1, hl1, hMo1⟩ := bd hM
      refine wp_lp (fun s : (List RuleD) × Int × (List Int) × Int => mill_Rules_l15 l10477 s.1 s.2.1 s.2.2.1 s.2.2.2) (fun s a w => ∃ (l18221 : (List RuleD)) (g18225 : Int) (d18226 : (List Int)) (d18228 : Int) (v18222 : Value) (cl18223 : (List Value)) (v18227 : Value), (l18221, g18225, d18226, d18228) = s ∧ St W0 (fun k => k = b2) T 132 [(0, .pointer (some ⟨b2, 0, none⟩)), (3, v18222), (27, .int .i64 (l10477.length : Int)), (28, .int .i64 g18225)] [.own v18222 53 R_RuleD.size cl18223, .box b2 [v18227, .int .i64 d18228] 84] [RowsF R_RuleD cl18223 l18221, SlF (Rep.int .i64) v18227 d18226] a w) hl1 ⟨l10477, 0, d10481, d10483, v10478, cl10479, v10482, rfl, (hS.meet [0, 1] (by decide) ⟨rfl, rfl, rfl, rfl, trivial⟩ ⟨rfl, rfl, trivial⟩ ⟨⟨0, rfl⟩, ⟨1, rfl⟩, trivial⟩)⟩ ?_
      rintro s a w f1 ⟨l18221, g18225, d18226, d18228, v18222, cl18223, v18227, rfl, hS⟩ hM hf1
      have hM : mill_Rules_l15 l10477 l18221 g18225 d18226 d18228 = some f1 := hM
      unfold mill_Rules_l15 at hM
      refine wp_seq_k fun K816 hK816 => ?_
      refine r_list ?_
      refine wl rfl (ky (v := .bool (decide ((g18225 : Int) < (l10477.length : Int)))) hS (y_int hS rfl rfl rfl) rfl rfl fun a hS => ?_)
      refine wpList_nil ?_
      try simp only [Exit.then, Exit.inBlock, ↓reduceIte, Nat.reduceEqDiff]
      refine hK816 _ _ ?_
      refine wp_seq_k fun K817 hK817 => ?_
      rcases bool2 (decide ((g18225 : Int) < (l10477.length : Int))) with hb20803 | hb20803
      · replace hM := ct hb20803 hM
        refine c_t hS rfl hb20803 ?_
        refine wp_skip ?_
        try simp only [Exit.then, Exit.inBlock, ↓reduceIte, Nat.reduceEqDiff]
        refine hK817 _ _ ?_
        refine seq_j (J := fun a w => ∃ (l22083 : (List RuleD)) (d22087 : (List Int)) (d22089 : Int) (v22084 : Value) (cl22085 : (List Value)) (v22088 : Value), St W0 (fun k => k = b2) T 132 [(0, .pointer (some ⟨b2, 0, none⟩)), (3, v22084), (27, .int .i64 (l10477.length : Int)), (28, .int .i64 g18225)] [.own v22084 53 R_RuleD.size cl22085, .box b2 [v22088, .int .i64 d22089] 84] [RowsF R_RuleD cl22085 l22083, SlF (Rep.int .i64) v22088 d22087] a w ∧ mill_Rules_j2 g18225 l22083 d22087 d22089 = some f1) ?_ ?_
        · skip
          refine wp_block ?_
          refine wp_seq_k fun K866 hK866 => ?_
          refine r_list ?_
          refine wl rfl (ky (v := .int .i64 g18225) hS (y_move hS rfl) rfl rfl fun a hS => ?_)
          refine wl rfl (ky (v := .int .i64 g18225) hS (y_assign hS rfl) rfl rfl fun a hS => ?_)
          refine wpList_nil ?_
          try simp only [Exit.then, Exit.inBlock, ↓reduceIte, Nat.reduceEqDiff]
          refine hK866 _ _ ?_
          refine wp_seq_k fun K867 hK867 => ?_
          refine r_list ?_
          refine wl rfl (ky (v := v18222) hS (y_move hS rfl) rfl rfl fun a hS => ?_)
          refine wl rfl (ky (v := .int .i64 g18225) hS (y_move hS rfl) rfl rfl fun a hS => ?_)
          have hL := hS
          replace hL := hL.freeze (R := R_RuleD) 0 rfl 0 rfl
          obtain ⟨u22090, hu22090, hM⟩ := bd hM
          refine wl rfl (k_call hS ci33 rfl rfl (ref24_Block_c _ _ hL.dlt l18221 g18225 _ (hL.get 0 rfl) _ hu22090) fun _ w hR a hk hA => ?_)
          have he := Eq.symm hR
          subst he
          have hS := hA [] (fun r hr => by cases hr) List.Pairwise.nil
          refine wl rfl (ky (v := .tuple #[.int .i64 u22090.1, .int .i64 u22090.2]) hS (y_move hS rfl) rfl rfl fun a hS => ?_)
          refine wl rfl (ky (v := .int .i64 u22090.1) hS (y_ex hS rfl rfl) rfl rfl fun a hS => ?_)
          refine wl rfl (ky (v := .int .i64 u22090.2) hS (y_ex hS rfl rfl) rfl rfl fun a hS => ?_)
          refine wl rfl (ky (v := .int .i64 u22090.1) hS (y_assign hS rfl) rfl rfl fun a hS => ?_)
          refine wl rfl (ky (v := .int .i64 u22090.2) hS (y_assign hS rfl) rfl rfl fun a hS => ?_)
          refine wpList_nil ?_
          try simp only [Exit.then, Exit.inBlock, ↓reduceIte, Nat.reduceEqDiff]
          refine hK867 _ _ ?_
          refine seq_j (J := fun a w => ∃ (b22102 : Int), St W0 (fun k => k = b2) T 132 [(0, .pointer (some ⟨b2, 0, none⟩)), (3, v18222), (5, .int .i64 g18225), (7, .int .i64 b22102), (27, .int .i64 (l10477.length : Int)), (28, .int .i64 g18225)] [.own v18222 53 R_RuleD.size cl18223, .box b2 [v18227, .int .i64 d18228] 84] [RowsF R_RuleD cl18223 l18221, SlF (Rep.int .i64) v18227 d18226] a w ∧ mill_Rules_j14 l18221 g18225 d18226 d18228 b22102 = some f1) ?_ ?_
          · skip
            refine wp_seq_k fun K923 hK923 => ?_
            refine r_list ?_
            refine wl rfl (ky (v := v18222) hS (y_move hS rfl) rfl rfl fun a hS => ?_)
            refine wl rfl (ky (v := .int .i64 g18225) hS (y_move hS rfl) rfl rfl fun a hS => ?_)
            obtain ⟨e23614, he23614, hM⟩ := bd hM
            refine wl rfl (k_indexo (R := R_RuleD) hS sl49 ty53 rfl rfl 0 rfl 0 rfl he23614 rfl fun b23616 o23617 p23622 cs23619 hr23618 hO23620 hC23621 a hS => ?_)
            obtain ⟨v23615, rfl, hv23615⟩ := hr23618
            replace hS := hS.fact (SlF R_AskD v23615 e23614.Asks) hv23615
            refine wl rfl (ky (v := .pointer (some ⟨b23616, o23617 + 0, none⟩)) hS (y_fld hS rfl fl53_0) rfl rfl fun a hS => ?_)
            refine wl rfl (ky (v := .bool e23614.Ring) hS (y_loado (k := 0) hS ty4 0 rfl hO23620 hC23621 rfl id (us := [.bool e23614.Ring]) rfl rfl (fun _ => rfl)) rfl rfl fun a hS => ?_)
            refine wl rfl (ky (v := .bool (!(e23614.Ring))) hS (y_not hS rfl) rfl rfl fun a hS => ?_)
            refine wpList_nil ?_
            try simp only [Exit.then, Exit.inBlock, ↓reduceIte, Nat.reduceEqDiff]
            refine hK923 _ _ ?_
            rcases bool2 (!(e23614.Ring)) with hb23623 | hb23623
            · replace hM := ct hb23623 hM
              refine c_t hS rfl hb23623 ?_
              refine r_list ?_
              refine wl rfl (ky (v := .int .i64 u22090.1) hS (y_move hS rfl) rfl rfl fun a hS => ?_)
              refine wl rfl (ky (v := .int .i64 u22090.1) hS (y_assign hS rfl) rfl rfl fun a hS => ?_)
              refine wpList_nil ?_
              try simp only [Exit.then, Exit.inBlock, ↓reduceIte, Nat.reduceEqDiff]
              exact ⟨u22090.1, (hS.meet [0, 1] (by decide) ⟨rfl, rfl, rfl, rfl, rfl, rfl, trivial⟩ ⟨rfl, rfl, trivial⟩ ⟨⟨1, rfl⟩, ⟨2, rfl⟩, trivial⟩), hM⟩
            · replace hM := cf hb23623 hM
              refine c_f hS rfl hb23623 ?_
              refine wp_skip ?_
              try simp only [Exit.then, Exit.inBlock, ↓reduceIte, Nat.reduceEqDiff]
              exact ⟨u22090.2, (hS.meet [0, 1] (by decide) ⟨rfl, rfl, rfl, rfl, rfl, rfl, trivial⟩ ⟨rfl, rfl, trivial⟩ ⟨⟨1, rfl⟩, ⟨2, rfl⟩, trivial⟩), hM⟩
          · rintro a w ⟨b22102, hS, hM⟩
            unfold mill_Rules_j14 at hM
            refine seq_j (J := fun a w => ∃ (d22177 : (List Int)) (d22179 : Int) (r22180 : Bool) (r22181 : Int) (r22182 : Int) (b22175 : Nat) (v22178 : Value), St W0 (fun k => k = b2) T 132 [(0, .pointer (some ⟨b2, 0, none⟩)), (3, v18222), (5, .int .i64 g18225), (7, .int .i64 b22102), (8, .pointer (some ⟨b22175, 0, none⟩)), (27, .int .i64 (l10477.length : Int)), (28, .int .i64 g18225)] [.own v18222 53 R_RuleD.size cl18223, .box b2 [v22178, .int .i64 d22179] 84, .box b22175 [.bool r22180, .slice none 0 0, .int .i64 r22181, .int .i64 r22182] 53] [RowsF R_RuleD cl18223 l18221, SlF (Rep.int .i64) v22178 d22177] a w ∧ mill_Rules_j13 l18221 g18225 b22102 d22177 d22179 r22180 r22181 r22182 = some f1) ?_ ?_
            · skip
              obtain ⟨N23595, hN23595⟩ : ∃ N, N = w.heap.size := ⟨_, rfl⟩
              replace hS := hS.fact (SzF N23595) (Nat.le_of_eq hN23595)
              refine draws [(6, .blk (some b2)), (9, .blk (some b2)), (12, .new N23595)] hS mixed rfl (fun c a d v w h => by cases d <;> exact h) fun w hQ hS => ?_
              refine dy 0 (v := v18222) rfl (by kernel_rfl) (by kernel_rfl) (by kernel_rfl) rfl hQ hS (y_move hS rfl) rfl rfl rfl fun a hS => ?_
              refine dy 1 (v := .int .i64 g18225) rfl (by kernel_rfl) (by kernel_rfl) (by kernel_rfl) rfl hQ hS (y_move hS rfl) rfl rfl rfl fun a hS => ?_
              obtain ⟨e23596, he23596, hM⟩ := bd hM
              obtain ⟨b23598, o23599, p23604, cs23601, hr23600, hO23602, hC23603, hy23605⟩ := d_indexo (R := R_RuleD) hS sl49 ty53 0 rfl 1 rfl he23596
              obtain ⟨v23597, rfl, hv23597⟩ := hr23600
              replace hS := hS.fact (SlF R_AskD v23597 e23596.Asks) hv23597
              refine dy 2 (v := .pointer (some ⟨b23598, o23599, none⟩)) rfl (by kernel_rfl) (by kernel_rfl) (by kernel_rfl) rfl hQ hS (hy23605 rfl rfl) rfl rfl rfl fun a hS => ?_
              refine dy 3 (v := .pointer (some ⟨b23598, o23599 + 0, none⟩)) rfl (by kernel_rfl) (by kernel_rfl) (by kernel_rfl) rfl hQ hS (y_fld hS rfl fl53_0) rfl rfl rfl fun a hS => ?_
              refine dy (l := [.blk (some b2), .blk (some b2)]) 4 (v := .bool e23596.Ring) rfl (by kernel_rfl) (by kernel_rfl) (by kernel_rfl) (by kernel_rfl) hQ hS (y_loado (k := 0) hS ty4 0 rfl hO23602 hC23603 rfl (eo_ne hS 0 rfl (oel_dom hO23602) 1 rfl rfl (by decide) (eo_ne hS 0 rfl (oel_dom hO23602) 1 rfl rfl (by decide) eo_nil)) (us := [.bool e23596.Ring]) rfl rfl (fun _ => rfl)) rfl rfl rfl fun a hS => ?_
              refine dy 5 (v := .pointer (some ⟨b2, 0, none⟩)) rfl (by kernel_rfl) (by kernel_rfl) (by kernel_rfl) rfl hQ hS (y_move hS rfl) rfl rfl rfl fun a hS => ?_
              refine dy 8 (v := .pointer (some ⟨b2, 0, none⟩)) rfl (by kernel_rfl) (by kernel_rfl) (by kernel_rfl) rfl hQ hS (y_move hS rfl) rfl rfl rfl fun a hS => ?_
              obtain ⟨u23606, hu23606, hM⟩ := bd hM
              refine wpE_two (i := 6) (j := 11) rfl rfl (by kernel_rfl) rfl rfl ?_ ?_
              · skip
                refine id (k_callm hS ci41 rfl rfl 1 rfl (dice_Next_c _ _ (hS.drop 1).dlt (DiceD.mk d18226 d18228) 4 _ _ (hS.boxRow 1 rfl) (hS.notin 1 rfl) (SlR.lent (i := 1) rfl (hS.get 3 rfl)) _ hu23606) fun _ w hR hk => ?_)
                obtain ⟨vz23607_3, he, hrow, hRvz23607_3⟩ := hR
                replace he := he.symm
                subst he
                refine ⟨[vz23607_3, .int .i64 u23606.2.At], hrow, fun a hS => ⟨stM rfl hk etBox, ?_⟩⟩
                replace hS := hS.fact (SlF (Rep.int .i64) vz23607_3 u23606.2.L) (SlR.back (i := 1) rfl hRvz23607_3)
                refine dy 7 (v := .int .i64 (IntKind.i64.wrap (1 + u23606.1))) rfl (by kernel_rfl) (by kernel_rfl) (by kernel_rfl) rfl hQ hS (y_int hS rfl rfl rfl) rfl rfl rfl fun a hS => ?_
                obtain ⟨u23608, hu23608, hM⟩ := bd hM
                refine wpE_two (i := 9) (j := 11) rfl rfl (by kernel_rfl) rfl rfl ?_ ?_
                · skip
                  refine id (k_callm hS ci41 rfl rfl 1 rfl (dice_Next_c _ _ (hS.drop 1).dlt (DiceD.mk u23606.2.L u23606.2.At) 6 _ _ (hS.boxRow 1 rfl) (hS.notin 1 rfl) (SlR.lent (i := 1) rfl (hS.get 0 rfl)) _ hu23608) fun _ w hR hk => ?_)
                  obtain ⟨vz23609_3, he, hrow, hRvz23609_3⟩ := hR
                  replace he := he.symm
                  subst he
                  refine ⟨[vz23609_3, .int .i64 u23608.2.At], hrow, fun a hS => ⟨stM rfl hk etBox, ?_⟩⟩
                  replace hS := hS.fact (SlF (Rep.int .i64) vz23609_3 u23608.2.L) (SlR.back (i := 1) rfl hRvz23609_3)
                  refine dy 10 (v := .agg #[.bool e23596.Ring, .slice none 0 0, .int .i64 (IntKind.i64.wrap (1 + u23606.1)), .int .i64 u23608.1]) rfl (by kernel_rfl) (by kernel_rfl) (by kernel_rfl) rfl hQ hS (y_build (ps := [(0, .tmp 48), (2, .tmp 51), (3, .tmp 53)]) hS pl53 ze53 rfl (us := [[.bool e23596.Ring], [.int .i64 (IntKind.i64.wrap (1 + u23606.1))], [.int .i64 u23608.1]]) ⟨rfl, ⟨rfl, ⟨rfl, trivial⟩⟩⟩ (ws := [.bool e23596.Ring, .slice none 0 0, .int .i64 (IntKind.i64.wrap (1 + u23606.1)), .int .i64 u23608.1]) rfl) rfl rfl rfl fun a hS => ?_
                  have hz23613 := (hS.get 3 rfl : N23595 ≤ w.heap.size)
                  refine wpE_one (i := 11) rfl (by kernel_rfl) rfl (k_alloc hS ze53 rfl fun b23610 hnb23612 a w hk hS => ⟨stN (hk), ?_⟩)
                  refine wpE_upd 12 (.blk (some b23610)) _ (by kernel_rfl) (etNB (Nat.le_trans hz23613 hnb23612)) ?_
                  refine wpE_one (i := 12) rfl (by kernel_rfl) rfl (k_store hS rfl rfl (us := [.bool e23596.Ring, .slice none 0 0, .int .i64 (IntKind.i64.wrap (1 + u23606.1)), .int .i64 u23608.1]) rfl ty53 0 rfl rfl rfl (oc rfl (oc rfl (oc rfl (oc rfl on)))) fun w hk hS => ⟨stM rfl hk etBox, ?_⟩)
                  refine wpE_done (by kernel_rfl) ?_ _
                  try simp only [Exit.then, Exit.inBlock, ↓reduceIte, Nat.reduceEqDiff]
                  exact ⟨u23608.2.L, u23608.2.At, e23596.Ring, (IntKind.i64.wrap (1 + u23606.1)), u23608.1, b23610, vz23609_3, (hS.meet [1, 2, 0] (by decide) ⟨rfl, rfl, rfl, rfl, rfl, rfl, rfl, trivial⟩ ⟨rfl, rfl, rfl, trivial⟩ ⟨⟨4, rfl⟩, ⟨0, rfl⟩, trivial⟩), hM⟩
                · skip
                  have hz23612 := (hS.get 2 rfl : N23595 ≤ w.heap.size)
                  refine id (k_alloc hS ze53 rfl fun b23609 hnb23611 a w hk hS => ⟨stN (hk), ?_⟩)
                  refine wpE_upd 12 (.blk (some b23609)) _ (by kernel_rfl) (etNB (Nat.le_trans hz23612 hnb23611)) ?_
                  refine wpE_one (i := 9) rfl (by kernel_rfl) rfl (k_callm hS ci41 rfl rfl 2 rfl (dice_Next_c _ _ (hS.drop 2).dlt (DiceD.mk u23606.2.L u23606.2.At) 6 _ _ (hS.boxRow 2 rfl) (hS.notin 2 rfl) (SlR.lent (i := 2) rfl (hS.get 0 rfl)) _ hu23608) fun _ w hR hk => ?_)
                  obtain ⟨vz23613_3, he, hrow, hRvz23613_3⟩ := hR
                  replace he := he.symm
                  subst he
                  refine ⟨[vz23613_3, .int .i64 u23608.2.At], hrow, fun a hS => ⟨stM rfl hk etBox, ?_⟩⟩
                  replace hS := hS.fact (SlF (Rep.int .i64) vz23613_3 u23608.2.L) (SlR.back (i := 2) rfl hRvz23613_3)
                  refine dy 10 (v := .agg #[.bool e23596.Ring, .slice none 0 0, .int .i64 (IntKind.i64.wrap (1 + u23606.1)), .int .i64 u23608.1]) rfl (by kernel_rfl) (by kernel_rfl) (by kernel_rfl) rfl hQ hS (y_build (ps := [(0, .tmp 48), (2, .tmp 51), (3, .tmp 53)]) hS pl53 ze53 rfl (us := [[.bool e23596.Ring], [.int .i64 (IntKind.i64.wrap (1 + u23606.1))], [.int .i64 u23608.1]]) ⟨rfl, ⟨rfl, ⟨rfl, trivial⟩⟩⟩ (ws := [.bool e23596.Ring, .slice none 0 0, .int .i64 (IntKind.i64.wrap (1 + u23606.1)), .int .i64 u23608.1]) rfl) rfl rfl rfl fun a hS => ?_
                  refine wpE_one (i := 12) rfl (by kernel_rfl) rfl (k_store hS rfl rfl (us := [.bool e23596.Ring, .slice none 0 0, .int .i64 (IntKind.i64.wrap (1 + u23606.1)), .int .i64 u23608.1]) rfl ty53 0 rfl rfl rfl (oc rfl (oc rfl (oc rfl (oc rfl on)))) fun w hk hS => ⟨stM rfl hk etBox, ?_⟩)
                  refine wpE_done (by kernel_rfl) ?_ _
                  try simp only [Exit.then, Exit.inBlock, ↓reduceIte, Nat.reduceEqDiff]
                  exact ⟨u23608.2.L, u23608.2.At, e23596.Ring, (IntKind.i64.wrap (1 + u23606.1)), u23608.1, b23609, vz23613_3, (hS.meet [1, 2, 0] (by decide) ⟨rfl, rfl, rfl, rfl, rfl, rfl, rfl, trivial⟩ ⟨rfl, rfl, rfl, trivial⟩ ⟨⟨4, rfl⟩, ⟨0, rfl⟩, trivial⟩), hM⟩
              · skip
                have hz23610 := (hS.get 1 rfl : N23595 ≤ w.heap.size)
                refine id (k_alloc hS ze53 rfl fun b23607 hnb23609 a w hk hS => ⟨stN (hk), ?_⟩)
                refine wpE_upd 12 (.blk (some b23607)) _ (by kernel_rfl) (etNB (Nat.le_trans hz23610 hnb23609)) ?_
                refine wpE_one (i := 6) rfl (by kernel_rfl) rfl (k_callm hS ci41 rfl rfl 2 rfl (dice_Next_c _ _ (hS.drop 2).dlt (DiceD.mk d18226 d18228) 4 _ _ (hS.boxRow 2 rfl) (hS.notin 2 rfl) (SlR.lent (i := 2) rfl (hS.get 3 rfl)) _ hu23606) fun _ w hR hk => ?_)
                obtain ⟨vz23611_3, he, hrow, hRvz23611_3⟩ := hR
                replace he := he.symm
                subst he
                refine ⟨[vz23611_3, .int .i64 u23606.2.At], hrow, fun a hS => ⟨stM rfl hk etBox, ?_⟩⟩
                replace hS := hS.fact (SlF (Rep.int .i64) vz23611_3 u23606.2.L) (SlR.back (i := 2) rfl hRvz23611_3)
                refine dy 7 (v := .int .i64 (IntKind.i64.wrap (1 + u23606.1))) rfl (by kernel_rfl) (by kernel_rfl) (by kernel_rfl) rfl hQ hS (y_int hS rfl rfl rfl) rfl rfl rfl fun a hS => ?_
                obtain ⟨u23612, hu23612, hM⟩ := bd hM
                refine wpE_one (i := 9) rfl (by kernel_rfl) rfl (k_callm hS ci41 rfl rfl 2 rfl (dice_Next_c _ _ (hS.drop 2).dlt (DiceD.mk u23606.2.L u23606.2.At) 6 _ _ (hS.boxRow 2 rfl) (hS.notin 2 rfl) (SlR.lent (i := 2) rfl (hS.get 0 rfl)) _ hu23612) fun _ w hR hk => ?_)
                obtain ⟨vz23613_3, he, hrow, hRvz23613_3⟩ := hR
                replace he := he.symm
                subst he
                refine ⟨[vz23613_3, .int .i64 u23612.2.At], hrow, fun a hS => ⟨stM rfl hk etBox, ?_⟩⟩
                replace hS := hS.fact (SlF (Rep.int .i64) vz23613_3 u23612.2.L) (SlR.back (i := 2) rfl hRvz23613_3)
                refine dy 10 (v := .agg #[.bool e23596.Ring, .slice none 0 0, .int .i64 (IntKind.i64.wrap (1 + u23606.1)), .int .i64 u23612.1]) rfl (by kernel_rfl) (by kernel_rfl) (by kernel_rfl) rfl hQ hS (y_build (ps := [(0, .tmp 48), (2, .tmp 51), (3, .tmp 53)]) hS pl53 ze53 rfl (us := [[.bool e23596.Ring], [.int .i64 (IntKind.i64.wrap (1 + u23606.1))], [.int .i64 u23612.1]]) ⟨rfl, ⟨rfl, ⟨rfl, trivial⟩⟩⟩ (ws := [.bool e23596.Ring, .slice none 0 0, .int .i64 (IntKind.i64.wrap (1 + u23606.1)), .int .i64 u23612.1]) rfl) rfl rfl rfl fun a hS => ?_
                refine wpE_one (i := 12) rfl (by kernel_rfl) rfl (k_store hS rfl rfl (us := [.bool e23596.Ring, .slice none 0 0, .int .i64 (IntKind.i64.wrap (1 + u23606.1)), .int .i64 u23612.1]) rfl ty53 0 rfl rfl rfl (oc rfl (oc rfl (oc rfl (oc rfl on)))) fun w hk hS => ⟨stM rfl hk etBox, ?_⟩)
                refine wpE_done (by kernel_rfl) ?_ _
                try simp only [Exit.then, Exit.inBlock, ↓reduceIte, Nat.reduceEqDiff]
                exact ⟨u23612.2.L, u23612.2.At, e23596.Ring, (IntKind.i64.wrap (1 + u23606.1)), u23612.1, b23607, vz23613_3, (hS.meet [1, 2, 0] (by decide) ⟨rfl, rfl, rfl, rfl, rfl, rfl, rfl, trivial⟩ ⟨rfl, rfl, rfl, trivial⟩ ⟨⟨4, rfl⟩, ⟨0, rfl⟩, trivial⟩), hM⟩
            · rintro a w ⟨d22177, d22179, r22180, r22181, r22182, b22175, v22178, hS, hM⟩
              unfold mill_Rules_j13 at hM
              refine seq_j (J := fun a w => ∃ (d22206 : (List Int)) (d22208 : Int) (r22209 : Int) (r22210 : Int) (v22207 : Value), St W0 (fun k => k = b2) T 132 [(0, .pointer (some ⟨b2, 0, none⟩)), (3, v18222), (5, .int .i64 g18225), (7, .int .i64 b22102), (8, .pointer (some ⟨b22175, 0, none⟩)), (27, .int .i64 (l10477.length : Int)), (28, .int .i64 g18225)] [.own v18222 53 R_RuleD.size cl18223, .box b2 [v22207, .int .i64 d22208] 84, .box b22175 [.bool r22180, .slice none 0 0, .int .i64 r22209, .int .i64 r22210] 53] [RowsF R_RuleD cl18223 l18221, SlF (Rep.int .i64) v22207 d22206] a w ∧ mill_Rules_j12 l18221 g18225 b22102 r22180 d22206 d22208 r22209 r22210 = some f1) ?_ ?_
              · skip
                refine wp_seq_k fun K922 hK922 => ?_
                refine r_list ?_
                refine wl rfl (ky (v := .pointer (some ⟨b22175, 0 + 0, none⟩)) hS (y_fld hS rfl fl53_0) rfl rfl fun a hS => ?_)
                refine wl rfl (ky (v := .bool r22180) hS (y_load hS rfl ty4 2 rfl id (us := [.bool r22180]) rfl rfl (fun _ => rfl)) rfl rfl fun a hS => ?_)
                refine wpList_nil ?_
                try simp only [Exit.then, Exit.inBlock, ↓reduceIte, Nat.reduceEqDiff]
                refine hK922 _ _ ?_
                rcases bool2 (r22180) with hb23555 | hb23555
                · replace hM := ct hb23555 hM
                  refine c_t hS rfl hb23555 ?_
                  refine draws [(2, .blk (some b2)), (6, .blk (some b22175)), (8, .blk (some b22175))] hS mixed rfl (fun c a d v w h => by cases d <;> exact h) fun w hQ hS => ?_
                  refine dy 1 (v := .pointer (some ⟨b2, 0, none⟩)) rfl (by kernel_rfl) (by kernel_rfl) (by kernel_rfl) rfl hQ hS (y_move hS rfl) rfl rfl rfl fun a hS => ?_
                  refine dy 5 (v := .pointer (some ⟨b22175, 0 + 2, none⟩)) rfl (by kernel_rfl) (by kernel_rfl) (by kernel_rfl) rfl hQ hS (y_fld hS rfl fl53_2) rfl rfl rfl fun a hS => ?_
                  obtain ⟨u23567, hu23567, hM⟩ := bd hM
                  refine wpE_two (i := 0) (j := 2) rfl rfl (by kernel_rfl) rfl rfl ?_ ?_
                  · skip
                    refine id (k_bslice (ps := [(0, .const (.int .i64 0)), (1, .const (.int .i64 1)), (2, .const (.int .i64 2)), (3, .const (.int .i64 4)), (4, .const (.int .i64 8)), (5, .const (.int .i64 16))]) hS el44 ze3 (zl := [.int .i64 0, .int .i64 0, .int .i64 0, .int .i64 0, .int .i64 0, .int .i64 0]) (by kernel_rfl) rfl (us := [[.int .i64 0], [.int .i64 1], [.int .i64 2], [.int .i64 4], [.int .i64 8], [.int .i64 16]]) ⟨rfl, ⟨rfl, ⟨rfl, ⟨rfl, ⟨rfl, ⟨rfl, trivial⟩⟩⟩⟩⟩⟩ (ws := [.int .i64 0, .int .i64 1, .int .i64 2, .int .i64 4, .int .i64 8, .int .i64 16]) rfl rfl rfl rfl fun b23568 a w hk hS => ⟨stN (hk), ?_⟩)
                    refine wpE_one (i := 2) rfl (by kernel_rfl) rfl (k_callm hS ci41 rfl rfl 2 rfl (dice_Next_c _ _ (hS.drop 2).dlt (DiceD.mk d22177 d22179) 6 _ _ (hS.boxRow 2 rfl) (hS.notin 2 rfl) (SlR.lent (i := 2) rfl (hS.get 1 rfl)) _ hu23567) fun _ w hR hk => ?_)
                    obtain ⟨vz23570_3, he, hrow, hRvz23570_3⟩ := hR
                    replace he := he.symm
                    subst he
                    refine ⟨[vz23570_3, .int .i64 u23567.2.At], hrow, fun a hS => ⟨stM rfl hk etBox, ?_⟩⟩
                    replace hS := hS.fact (SlF (Rep.int .i64) vz23570_3 u23567.2.L) (SlR.back (i := 2) rfl hRvz23570_3)
                    replace hS := hS.lit (R := (Rep.int .i64)) (us := [.int .i64 0, .int .i64 1, .int .i64 2, .int .i64 4, .int .i64 8, .int .i64 16]) (xs := [0, 1, 2, 4, 8, 16]) 0 rfl (by decide) ((RowsOk.one_ (R := (Rep.int .i64)) (x := 0) rfl).append ((RowsOk.one_ (R := (Rep.int .i64)) (x := 1) rfl).append ((RowsOk.one_ (R := (Rep.int .i64)) (x := 2) rfl).append ((RowsOk.one_ (R := (Rep.int .i64)) (x := 4) rfl).append ((RowsOk.one_ (R := (Rep.int .i64)) (x := 8) rfl).append (RowsOk.one_ (R := (Rep.int .i64)) (x := 16) rfl)))))) rfl rfl
                    replace hS := hS.freeze (R := (Rep.int .i64)) 0 rfl 0 rfl
                    obtain ⟨e23571, he23571, hM⟩ := bd hM
                    obtain ⟨b23572, o23573, cs23575, hr23574, hy23577, hS⟩ := d_index (R := (Rep.int .i64)) hS sl44 ty3 0 rfl he23571
                    obtain rfl := hr23574
                    refine dy 3 (v := .pointer (some ⟨b23572, o23573, none⟩)) rfl (by kernel_rfl) (by kernel_rfl) (by kernel_rfl) rfl hQ hS (hy23577 rfl rfl) rfl rfl rfl fun a hS => ?_
                    refine dy (l := [.blk (some b22175)]) 4 (v := .int .i64 e23571) rfl (by kernel_rfl) (by kernel_rfl) (by kernel_rfl) (by kernel_rfl) hQ hS (y_loadc (k := 0) hS ty3 0 rfl rfl (es_in 2 rfl rfl es_nil) (us := [.int .i64 e23571]) rfl rfl (fun _ => rfl)) rfl rfl rfl fun a hS => ?_
                    refine wpE_one (i := 6) rfl (by kernel_rfl) rfl (k_store hS rfl rfl (us := [.int .i64 5]) rfl ty3 2 rfl rfl rfl (oc rfl on) fun w hk hS => ⟨stM rfl hk etBox, ?_⟩)
                    refine dy 7 (v := .pointer (some ⟨b22175, 0 + 3, none⟩)) rfl (by kernel_rfl) (by kernel_rfl) (by kernel_rfl) rfl hQ hS (y_fld hS rfl fl53_3) rfl rfl rfl fun a hS => ?_
                    refine wpE_one (i := 8) rfl (by kernel_rfl) rfl (k_store hS rfl rfl (us := [.int .i64 e23571]) rfl ty3 2 rfl rfl rfl (oc rfl on) fun w hk hS => ⟨stM rfl hk etBox, ?_⟩)
                    refine wpE_done (by kernel_rfl) ?_ _
                    try simp only [Exit.then, Exit.inBlock, ↓reduceIte, Nat.reduceEqDiff]
                    exact ⟨u23567.2.L, u23567.2.At, 5, e23571, vz23570_3, (hS.meet [0, 1, 2] (by decide) ⟨rfl, rfl, rfl, rfl, rfl, rfl, rfl, trivial⟩ ⟨rfl, rfl, rfl, trivial⟩ ⟨⟨4, rfl⟩, ⟨3, rfl⟩, trivial⟩), hM⟩
                  · skip
                    refine id (k_callm hS ci41 rfl rfl 1 rfl (dice_Next_c _ _ (hS.drop 1).dlt (DiceD.mk d22177 d22179) 6 _ _ (hS.boxRow 1 rfl) (hS.notin 1 rfl) (SlR.lent (i := 1) rfl (hS.get 1 rfl)) _ hu23567) fun _ w hR hk => ?_)
                    obtain ⟨vz23568_3, he, hrow, hRvz23568_3⟩ := hR
                    replace he := he.symm
                    subst he
                    refine ⟨[vz23568_3, .int .i64 u23567.2.At], hrow, fun a hS => ⟨stM rfl hk etBox, ?_⟩⟩
                    replace hS := hS.fact (SlF (Rep.int .i64) vz23568_3 u23567.2.L) (SlR.back (i := 1) rfl hRvz23568_3)
                    refine wpE_two (i := 0) (j := 6) rfl rfl (by kernel_rfl) rfl rfl ?_ ?_
                    · skip
                      refine id (k_bslice (ps := [(0, .const (.int .i64 0)), (1, .const (.int .i64 1)), (2, .const (.int .i64 2)), (3, .const (.int .i64 4)), (4, .const (.int .i64 8)), (5, .const (.int .i64 16))]) hS el44 ze3 (zl := [.int .i64 0, .int .i64 0, .int .i64 0, .int .i64 0, .int .i64 0, .int .i64 0]) (by kernel_rfl) rfl (us := [[.int .i64 0], [.int .i64 1], [.int .i64 2], [.int .i64 4], [.int .i64 8], [.int .i64 16]]) ⟨rfl, ⟨rfl, ⟨rfl, ⟨rfl, ⟨rfl, ⟨rfl, trivial⟩⟩⟩⟩⟩⟩ (ws := [.int .i64 0, .int .i64 1, .int .i64 2, .int .i64 4, .int .i64 8, .int .i64 16]) rfl rfl rfl rfl fun b23569 a w hk hS => ⟨stN (hk), ?_⟩)
                      replace hS := hS.lit (R := (Rep.int .i64)) (us := [.int .i64 0, .int .i64 1, .int .i64 2, .int .i64 4, .int .i64 8, .int .i64 16]) (xs := [0, 1, 2, 4, 8, 16]) 0 rfl (by decide) ((RowsOk.one_ (R := (Rep.int .i64)) (x := 0) rfl).append ((RowsOk.one_ (R := (Rep.int .i64)) (x := 1) rfl).append ((RowsOk.one_ (R := (Rep.int .i64)) (x := 2) rfl).append ((RowsOk.one_ (R := (Rep.int .i64)) (x := 4) rfl).append ((RowsOk.one_ (R := (Rep.int .i64)) (x := 8) rfl).append (RowsOk.one_ (R := (Rep.int .i64)) (x := 16) rfl)))))) rfl rfl
                      replace hS := hS.freeze (R := (Rep.int .i64)) 0 rfl 0 rfl
                      obtain ⟨e23571, he23571, hM⟩ := bd hM
                      obtain ⟨b23572, o23573, cs23575, hr23574, hy23577, hS⟩ := d_index (R := (Rep.int .i64)) hS sl44 ty3 0 rfl he23571
                      obtain rfl := hr23574
                      refine dy 3 (v := .pointer (some ⟨b23572, o23573, none⟩)) rfl (by kernel_rfl) (by kernel_rfl) (by kernel_rfl) rfl hQ hS (hy23577 rfl rfl) rfl rfl rfl fun a hS => ?_
                      refine dy (l := [.blk (some b22175)]) 4 (v := .int .i64 e23571) rfl (by kernel_rfl) (by kernel_rfl) (by kernel_rfl) (by kernel_rfl) hQ hS (y_loadc (k := 0) hS ty3 0 rfl rfl (es_in 2 rfl rfl es_nil) (us := [.int .i64 e23571]) rfl rfl (fun _ => rfl)) rfl rfl rfl fun a hS => ?_
                      refine wpE_one (i := 6) rfl (by kernel_rfl) rfl (k_store hS rfl rfl (us := [.int .i64 5]) rfl ty3 2 rfl rfl rfl (oc rfl on) fun w hk hS => ⟨stM rfl hk etBox, ?_⟩)
                      refine dy 7 (v := .pointer (some ⟨b22175, 0 + 3, none⟩)) rfl (by kernel_rfl) (by kernel_rfl) (by kernel_rfl) rfl hQ hS (y_fld hS rfl fl53_3) rfl rfl rfl fun a hS => ?_
                      refine wpE_one (i := 8) rfl (by kernel_rfl) rfl (k_store hS rfl rfl (us := [.int .i64 e23571]) rfl ty3 2 rfl rfl rfl (oc rfl on) fun w hk hS => ⟨stM rfl hk etBox, ?_⟩)
                      refine wpE_done (by kernel_rfl) ?_ _
                      try simp only [Exit.then, Exit.inBlock, ↓reduceIte, Nat.reduceEqDiff]
                      exact ⟨u23567.2.L, u23567.2.At, 5, e23571, vz23568_3, (hS.meet [0, 1, 2] (by decide) ⟨rfl, rfl, rfl, rfl, rfl, rfl, rfl, trivial⟩ ⟨rfl, rfl, rfl, trivial⟩ ⟨⟨4, rfl⟩, ⟨3, rfl⟩, trivial⟩), hM⟩
                    · skip
                      refine id (k_store hS rfl rfl (us := [.int .i64 5]) rfl ty3 2 rfl rfl rfl (oc rfl on) fun w hk hS => ⟨stM rfl hk etBox, ?_⟩)
                      refine wpE_one (i := 0) rfl (by kernel_rfl) rfl (k_bslice (ps := [(0, .const (.int .i64 0)), (1, .const (.int .i64 1)), (2, .const (.int .i64 2)), (3, .const (.int .i64 4)), (4, .const (.int .i64 8)), (5, .const (.int .i64 16))]) hS el44 ze3 (zl := [.int .i64 0, .int .i64 0, .int .i64 0, .int .i64 0, .int .i64 0, .int .i64 0]) (by kernel_rfl) rfl (us := [[.int .i64 0], [.int .i64 1], [.int .i64 2], [.int .i64 4], [.int .i64 8], [.int .i64 16]]) ⟨rfl, ⟨rfl, ⟨rfl, ⟨rfl, ⟨rfl, ⟨rfl, trivial⟩⟩⟩⟩⟩⟩ (ws := [.int .i64 0, .int .i64 1, .int .i64 2, .int .i64 4, .int .i64 8, .int .i64 16]) rfl rfl rfl rfl fun b23569 a w hk hS => ⟨stN (hk), ?_⟩)
                      replace hS := hS.lit (R := (Rep.int .i64)) (us := [.int .i64 0, .int .i64 1, .int .i64 2, .int .i64 4, .int .i64 8, .int .i64 16]) (xs := [0, 1, 2, 4, 8, 16]) 0 rfl (by decide) ((RowsOk.one_ (R := (Rep.int .i64)) (x := 0) rfl).append ((RowsOk.one_ (R := (Rep.int .i64)) (x := 1) rfl).append ((RowsOk.one_ (R := (Rep.int .i64)) (x := 2) rfl).append ((RowsOk.one_ (R := (Rep.int .i64)) (x := 4) rfl).append ((RowsOk.one_ (R := (Rep.int .i64)) (x := 8) rfl).append (RowsOk.one_ (R := (Rep.int .i64)) (x := 16) rfl)))))) rfl rfl
                      replace hS := hS.freeze (R := (Rep.int .i64)) 0 rfl 0 rfl
                      obtain ⟨e23571, he23571, hM⟩ := bd hM
                      obtain ⟨b23572, o23573, cs23575, hr23574, hy23577, hS⟩ := d_index (R := (Rep.int .i64)) hS sl44 ty3 0 rfl he23571
                      obtain rfl := hr23574
                      refine dy 3 (v := .pointer (some ⟨b23572, o23573, none⟩)) rfl (by kernel_rfl) (by kernel_rfl) (by kernel_rfl) rfl hQ hS (hy23577 rfl rfl) rfl rfl rfl fun a hS => ?_
                      refine dy (l := []) 4 (v := .int .i64 e23571) rfl (by kernel_rfl) (by kernel_rfl) (by kernel_rfl) (by kernel_rfl) hQ hS (y_loadc (k := 0) hS ty3 0 rfl rfl es_nil (us := [.int .i64 e23571]) rfl rfl (fun _ => rfl)) rfl rfl rfl fun a hS => ?_
                      refine dy 7 (v := .pointer (some ⟨b22175, 0 + 3, none⟩)) rfl (by kernel_rfl) (by kernel_rfl) (by kernel_rfl) rfl hQ hS (y_fld hS rfl fl53_3) rfl rfl rfl fun a hS => ?_
                      refine wpE_one (i := 8) rfl (by kernel_rfl) rfl (k_store hS rfl rfl (us := [.int .i64 e23571]) rfl ty3 2 rfl rfl rfl (oc rfl on) fun w hk hS => ⟨stM rfl hk etBox, ?_⟩)
                      refine wpE_done (by kernel_rfl) ?_ _
                      try simp only [Exit.then, Exit.inBlock, ↓reduceIte, Nat.reduceEqDiff]
                      exact ⟨u23567.2.L, u23567.2.At, 5, e23571, vz23568_3, (hS.meet [0, 1, 2] (by decide) ⟨rfl, rfl, rfl, rfl, rfl, rfl, rfl, trivial⟩ ⟨rfl, rfl, rfl, trivial⟩ ⟨⟨4, rfl⟩, ⟨3, rfl⟩, trivial⟩), hM⟩
                · replace hM := cf hb23555 hM
                  refine c_f hS rfl hb23555 ?_
                  refine wp_skip ?_
                  try simp only [Exit.then, Exit.inBlock, ↓reduceIte, Nat.reduceEqDiff]
                  exact ⟨d22177, d22179, r22181, r22182, v22178, (hS.meet [0, 1, 2] (by decide) ⟨rfl, rfl, rfl, rfl, rfl, rfl, rfl, trivial⟩ ⟨rfl, rfl, rfl, trivial⟩ ⟨⟨0, rfl⟩, ⟨1, rfl⟩, trivial⟩), hM⟩
              · rintro a w ⟨d22206, d22208, r22209, r22210, v22207, hS, hM⟩
                unfold mill_Rules_j12 at hM
                refine seq_j (J := fun a w => ∃ (d22747 : (List Int)) (d22749 : Int) (r22750 : (List AskD)) (v22751 : Value) (cl22752 : (List Value)) (v22748 : Value), St W0 (fun k => k = b2) T 132 [(0, .pointer (some ⟨b2, 0, none⟩)), (3, v18222), (5, .int .i64 g18225), (8, .pointer (some ⟨b22175, 0, none⟩)), (27, .int .i64 (l10477.length : Int)), (28, .int .i64 g18225)] [.own v18222 53 R_RuleD.size cl18223, .box b2 [v22748, .int .i64 d22749] 84, .own v22751 60 R_AskD.size cl22752, .box b22175 [.bool r22180, v22751, .int .i64 r22209, .int .i64 r22210] 53] [RowsF R_RuleD cl18223 l18221, SlF (Rep.int .i64) v22748 d22747, RowsF R_AskD cl22752 r22750] a w ∧ mill_Rules_j3 l18221 g18225 r22180 r22209 r22210 d22747 d22749 r22750 = some f1) ?_ ?_
                · skip
                  refine wp_seq_k fun K891 hK891 => ?_
                  refine r_list ?_
                  refine wl rfl (ky (v := .pointer (some ⟨b2, 0, none⟩)) hS (y_move hS rfl) rfl rfl fun a hS => ?_)
                  obtain ⟨u22764, hu22764, hM⟩ := bd hM
                  refine wl rfl (k_callm hS ci41 rfl rfl 1 rfl (dice_Next_c _ _ (hS.drop 1).dlt (DiceD.mk d22206 d22208) 4 _ _ (hS.boxRow 1 rfl) (hS.notin 1 rfl) (SlR.lent (i := 1) rfl (hS.get 1 rfl)) _ hu22764) fun _ w hR hk => ?_)
                  obtain ⟨vz22765_3, he, hrow, hRvz22765_3⟩ := hR
                  replace he := he.symm
                  subst he
                  refine ⟨[vz22765_3, .int .i64 u22764.2.At], hrow, fun a hS => ?_⟩
                  replace hS := hS.fact (SlF (Rep.int .i64) vz22765_3 u22764.2.L) (SlR.back (i := 1) rfl hRvz22765_3)
                  refine wl rfl (ky (v := .int .i64 u22764.1) hS (y_assign hS rfl) rfl rfl fun a hS => ?_)
                  refine wpList_nil ?_
                  try simp only [Exit.then, Exit.inBlock, ↓reduceIte, Nat.reduceEqDiff]
                  refine hK891 _ _ ?_
                  refine wp_block ?_
                  replace hS := hS.nilRow R_AskD 60 (by decide)
                  obtain ⟨r2, hl2, hMo2⟩ := bd hM
                  refine wp_lp (fun s : Int × (List Int) × Int × (List AskD) => mill_Rules_l11 b22102 r22180 s.1 s.2.1 s.2.2.1 s.2.2.2) (fun s a w => ∃ (k23030 : Int) (d23031 : (List Int)) (d23033 : Int) (r23034 : (List AskD)) (v23035 : Value) (cl23036 : (List Value)) (v23032 : Value), (k23030, d23031, d23033, r23034) = s ∧ St W0 (fun k => k = b2) T 132 [(0, .pointer (some ⟨b2, 0, none⟩)), (3, v18222), (5, .int .i64 g18225), (7, .int .i64 b22102), (8, .pointer (some ⟨b22175, 0, none⟩)), (9, .int .i64 k23030), (27, .int .i64 (l10477.length : Int)), (28, .int .i64 g18225)] [.own v18222 53 R_RuleD.size cl18223, .box b2 [v23032, .int .i64 d23033] 84, .own v23035 60 R_AskD.size cl23036, .box b22175 [.bool r22180, v23035, .int .i64 r22209, .int .i64 r22210] 53] [RowsF R_RuleD cl18223 l18221, SlF (Rep.int .i64) v23032 d23031, RowsF R_AskD cl23036 r23034] a w) hl2 ⟨u22764.1, u22764.2.L, u22764.2.At, ([] : List AskD), (.slice none 0 0), ([]), vz22765_3, rfl, (hS.meet [1, 2, 0, 3] (by decide) ⟨rfl, rfl, rfl, rfl, rfl, rfl, rfl, rfl, trivial⟩ ⟨rfl, rfl, rfl, rfl, trivial⟩ ⟨⟨2, rfl⟩, ⟨1, rfl⟩, ⟨0, rfl⟩, trivial⟩)⟩ ?_
                  rintro s a w f2 ⟨k23030, d23031, d23033, r23034, v23035, cl23036, v23032, rfl, hS⟩ hM hf2
                  have hM : mill_Rules_l11 b22102 r22180 k23030 d23031 d23033 r23034 = some f2 := hM
                  unfold mill_Rules_l11 at hM
                  refine wp_seq_k fun K912 hK912 => ?_
                  refine wp_seq_k fun K913 hK913 => ?_
                  refine r_list ?_
                  refine wl rfl (ky (v := .int .i64 k23030) hS (y_move hS rfl) rfl rfl fun a hS => ?_)
                  refine wl rfl (ky (v := .bool (decide ((0 : Int) < k23030))) hS (y_int hS rfl rfl rfl) rfl rfl fun a hS => ?_)
                  refine wpList_nil ?_
                  try simp only [Exit.then, Exit.inBlock, ↓reduceIte, Nat.reduceEqDiff]
                  refine hK913 _ _ ?_
                  rcases bool2 (decide ((0 : Int) < k23030)) with hb23301 | hb23301
                  · replace hM := ct hb23301 hM
                    refine c_t hS rfl hb23301 ?_
                    refine wp_skip ?_
                    try simp only [Exit.then, Exit.inBlock, ↓reduceIte, Nat.reduceEqDiff]
                    refine hK912 _ _ ?_
                    refine seq_j (J := fun a w => ∃ (d23425 : (List Int)) (d23427 : Int) (r23428 : (List AskD)) (v23429 : Value) (cl23430 : (List Value)) (v23426 : Value), St W0 (fun k => k = b2) T 132 [(0, .pointer (some ⟨b2, 0, none⟩)), (3, v18222), (5, .int .i64 g18225), (7, .int .i64 b22102), (8, .pointer (some ⟨b22175, 0, none⟩)), (9, .int .i64 k23030), (27, .int .i64 (l10477.length : Int)), (28, .int .i64 g18225)] [.own v18222 53 R_RuleD.size cl18223, .box b2 [v23426, .int .i64 d23427] 84, .own v23429 60 R_AskD.size cl23430, .box b22175 [.bool r22180, v23429, .int .i64 r22209, .int .i64 r22210] 53] [RowsF R_RuleD cl18223 l18221, SlF (Rep.int .i64) v23426 d23425, RowsF R_AskD cl23430 r23428] a w ∧ mill_Rules_j4 k23030 d23425 d23427 r23428 = some f2) ?_ ?_
                    · skip
                      refine wp_block ?_
                      refine seq_j (J := fun a w => ∃ (d23452 : (List Int)) (d23454 : Int) (x23455 : Bool) (b23450 : Nat) (v23453 : Value), St W0 (fun k => k = b2) T 132 [(0, .pointer (some ⟨b2, 0, none⟩)), (3, v18222), (5, .int .i64 g18225), (7, .int .i64 b22102), (8, .pointer (some ⟨b22175, 0, none⟩)), (9, .int .i64 k23030), (10, .pointer (some ⟨b23450, 0, none⟩)), (27, .int .i64 (l10477.length : Int)), (28, .int .i64 g18225)] [.own v18222 53 R_RuleD.size cl18223, .box b2 [v23453, .int .i64 d23454] 84, .own v23035 60 R_AskD.size cl23036, .box b22175 [.bool r22180, v23035, .int .i64 r22209, .int .i64 r22210] 53, .box b23450 [.bool x23455, .bool false, .int .i64 0, .int .i64 0] 60] [RowsF R_RuleD cl18223 l18221, SlF (Rep.int .i64) v23453 d23452, RowsF R_AskD cl23036 r23034] a w ∧ mill_Rules_j10 b22102 r22180 k23030 r23034 d23452 d23454 x23455 = some f2) ?_ ?_
                      · skip
                        refine r_list ?_
                        refine wl rfl (ky (v := .pointer (some ⟨b2, 0, none⟩)) hS (y_move hS rfl) rfl rfl fun a hS => ?_)
                        obtain ⟨u23546, hu23546, hM⟩ := bd hM
                        refine wl rfl (k_callm hS ci41 rfl rfl 1 rfl (dice_Next_c _ _ (hS.drop 1).dlt (DiceD.mk d23031 d23033) 3 _ _ (hS.boxRow 1 rfl) (hS.notin 1 rfl) (SlR.lent (i := 1) rfl (hS.get 1 rfl)) _ hu23546) fun _ w hR hk => ?_)
                        obtain ⟨vz23547_3, he, hrow, hRvz23547_3⟩ := hR
                        replace he := he.symm
                        subst he
                        refine ⟨[vz23547_3, .int .i64 u23546.2.At], hrow, fun a hS => ?_⟩
                        replace hS := hS.fact (SlF (Rep.int .i64) vz23547_3 u23546.2.L) (SlR.back (i := 1) rfl hRvz23547_3)
                        refine wl rfl (ky (v := .bool ((u23546.1 : Int) == 0)) hS (y_int hS rfl rfl rfl) rfl rfl fun a hS => ?_)
                        refine wl rfl (ky (v := .bool ((u23546.1 : Int) == 0)) hS (y_move hS rfl) rfl rfl fun a hS => ?_)
                        rcases bool2 ((u23546.1 : Int) == 0) with hb23548 | hb23548
                        · replace hM := ct hb23548 hM
                          refine wn hS rfl rfl rfl hb23548 rfl rfl fun a hS => ?_
                          refine wn hS rfl rfl rfl hb23548 rfl rfl fun a hS => ?_
                          refine wl rfl (ky (v := .bool true) hS (y_pickt hS rfl hb23548 rfl) rfl rfl fun a hS => ?_)
                          refine wl rfl (ky (v := .agg #[.bool true, .bool false, .int .i64 0, .int .i64 0]) hS (y_build (ps := [(0, .tmp 76)]) hS pl60 ze60 rfl (us := [[.bool true]]) ⟨rfl, trivial⟩ (ws := [.bool true, .bool false, .int .i64 0, .int .i64 0]) rfl) rfl rfl fun a hS => ?_)
                          refine wl rfl (k_alloc hS ze60 rfl fun b23549 hnb23551 a w hk hS => ?_)
                          refine wl rfl (k_store hS rfl rfl (us := [.bool true, .bool false, .int .i64 0, .int .i64 0]) rfl ty60 0 rfl rfl rfl (oc rfl (oc rfl (oc rfl (oc rfl on)))) fun w hk hS => ?_)
                          refine wpList_nil ?_
                          try simp only [Exit.then, Exit.inBlock, ↓reduceIte, Nat.reduceEqDiff]
                          exact ⟨u23546.2.L, u23546.2.At, true, b23549, vz23547_3, (hS.meet [1, 2, 3, 4, 0] (by decide) ⟨rfl, rfl, rfl, rfl, rfl, rfl, rfl, rfl, rfl, trivial⟩ ⟨rfl, rfl, rfl, rfl, rfl, trivial⟩ ⟨⟨1, rfl⟩, ⟨0, rfl⟩, ⟨3, rfl⟩, trivial⟩), hM⟩
                        · replace hM := cf hb23548 hM
                          refine wg hS rfl rfl rfl hb23548 (ky (v := .int .i64 b22102) hS (y_move hS rfl) rfl rfl fun a hS => ?_)
                          refine wg hS rfl rfl rfl hb23548 (ky (v := .bool ((b22102 : Int) == 0)) hS (y_int hS rfl rfl rfl) rfl rfl fun a hS => ?_)
                          refine wl rfl (ky (v := .bool ((b22102 : Int) == 0)) hS (y_pickf hS rfl hb23548 rfl) rfl rfl fun a hS => ?_)
                          refine wl rfl (ky (v := .agg #[.bool ((b22102 : Int) == 0), .bool false, .int .i64 0, .int .i64 0]) hS (y_build (ps := [(0, .tmp 76)]) hS pl60 ze60 rfl (us := [[.bool ((b22102 : Int) == 0)]]) ⟨rfl, trivial⟩ (ws := [.bool ((b22102 : Int) == 0), .bool false, .int .i64 0, .int .i64 0]) rfl) rfl rfl fun a hS => ?_)
                          refine wl rfl (k_alloc hS ze60 rfl fun b23552 hnb23554 a w hk hS => ?_)
                          refine wl rfl (k_store hS rfl rfl (us := [.bool ((b22102 : Int) == 0), .bool false, .int .i64 0, .int .i64 0]) rfl ty60 0 rfl rfl rfl (oc rfl (oc rfl (oc rfl (oc rfl on)))) fun w hk hS => ?_)
                          refine wpList_nil ?_
                          try simp only [Exit.then, Exit.inBlock, ↓reduceIte, Nat.reduceEqDiff]
                          exact ⟨u23546.2.L, u23546.2.At, ((b22102 : Int) == 0), b23552, vz23547_3, (hS.meet [1, 2, 3, 4, 0] (by decide) ⟨rfl, rfl, rfl, rfl, rfl, rfl, rfl, rfl, rfl, trivial⟩ ⟨rfl, rfl, rfl, rfl, rfl, trivial⟩ ⟨⟨1, rfl⟩, ⟨0, rfl⟩, ⟨3, rfl⟩, trivial⟩), hM⟩
                      · rintro a w ⟨d23452, d23454, x23455, b23450, v23453, hS, hM⟩
                        unfold mill_Rules_j10 at hM
                        refine wp_seq_k fun K918 hK918 => ?_
                        refine r_list ?_
                        refine wl rfl (ky (v := .int .i64 b22102) hS (y_move hS rfl) rfl rfl fun a hS => ?_)
                        refine wl rfl (ky (v := .int .i64 b22102) hS (y_assign hS rfl) rfl rfl fun a hS => ?_)
                        refine wpList_nil ?_
                        try simp only [Exit.then, Exit.inBlock, ↓reduceIte, Nat.reduceEqDiff]
                        refine hK918 _ _ ?_
                        refine seq_j (J := fun a w => ∃ (most23457 : Int), St W0 (fun k => k = b2) T 132 [(0, .pointer (some ⟨b2, 0, none⟩)), (3, v18222), (5, .int .i64 g18225), (7, .int .i64 b22102), (8, .pointer (some ⟨b22175, 0, none⟩)), (9, .int .i64 k23030), (10, .pointer (some ⟨b23450, 0, none⟩)), (11, .int .i64 most23457), (27, .int .i64 (l10477.length : Int)), (28, .int .i64 g18225)] [.own v18222 53 R_RuleD.size cl18223, .box b2 [v23453, .int .i64 d23454] 84, .own v23035 60 R_AskD.size cl23036, .box b22175 [.bool r22180, v23035, .int .i64 r22209, .int .i64 r22210] 53, .box b23450 [.bool x23455, .bool false, .int .i64 0, .int .i64 0] 60] [RowsF R_RuleD cl18223 l18221, SlF (Rep.int .i64) v23453 d23452, RowsF R_AskD cl23036 r23034] a w ∧ mill_Rules_j9 r22180 k23030 r23034 d23452 d23454 x23455 most23457 = some f2) ?_ ?_
                        · skip
                          refine wp_seq_k fun K921 hK921 => ?_
                          refine r_list ?_
                          refine wl rfl (ky (v := .pointer (some ⟨b23450, 0 + 0, none⟩)) hS (y_fld hS rfl fl60_0) rfl rfl fun a hS => ?_)
                          refine wl rfl (ky (v := .bool x23455) hS (y_load hS rfl ty4 4 rfl id (us := [.bool x23455]) rfl rfl (fun _ => rfl)) rfl rfl fun a hS => ?_)
                          refine wpList_nil ?_
                          try simp only [Exit.then, Exit.inBlock, ↓reduceIte, Nat.reduceEqDiff]
                          refine hK921 _ _ ?_
                          rcases bool2 (x23455) with hb23545 | hb23545
                          · replace hM := ct hb23545 hM
                            refine c_t hS rfl hb23545 ?_
                            refine r_list ?_
                            refine wl rfl (ky (v := .int .i64 4) hS (y_assign hS rfl) rfl rfl fun a hS => ?_)
                            refine wpList_nil ?_
                            try simp only [Exit.then, Exit.inBlock, ↓reduceIte, Nat.reduceEqDiff]
                            exact ⟨4, (hS.meet [0, 1, 2, 3, 4] (by decide) ⟨rfl, rfl, rfl, rfl, rfl, rfl, rfl, rfl, rfl, rfl, trivial⟩ ⟨rfl, rfl, rfl, rfl, rfl, trivial⟩ ⟨⟨0, rfl⟩, ⟨1, rfl⟩, ⟨2, rfl⟩, trivial⟩), hM⟩
                          · replace hM := cf hb23545 hM
                            refine c_f hS rfl hb23545 ?_
                            refine wp_skip ?_
                            try simp only [Exit.then, Exit.inBlock, ↓reduceIte, Nat.reduceEqDiff]
                            exact ⟨b22102, (hS.meet [0, 1, 2, 3, 4] (by decide) ⟨rfl, rfl, rfl, rfl, rfl, rfl, rfl, rfl, rfl, rfl, trivial⟩ ⟨rfl, rfl, rfl, rfl, rfl, trivial⟩ ⟨⟨0, rfl⟩, ⟨1, rfl⟩, ⟨2, rfl⟩, trivial⟩), hM⟩
                        · rintro a w ⟨most23457, hS, hM⟩
                          unfold mill_Rules_j9 at hM
                          refine wp_seq_k fun K920 hK920 => ?_
                          refine r_list ?_
                          refine wl rfl (ky (v := .pointer (some ⟨b2, 0, none⟩)) hS (y_move hS rfl) rfl rfl fun a hS => ?_)
                          refine wl rfl (ky (v := .int .i64 most23457) hS (y_move hS rfl) rfl rfl fun a hS => ?_)
                          obtain ⟨u23458, hu23458, hM⟩ := bd hM
                          refine wl rfl (k_callm hS ci41 rfl rfl 1 rfl (dice_Next_c _ _ (hS.drop 1).dlt (DiceD.mk d23452 d23454) most23457 _ _ (hS.boxRow 1 rfl) (hS.notin 1 rfl) (SlR.lent (i := 1) rfl (hS.get 1 rfl)) _ hu23458) fun _ w hR hk => ?_)
                          obtain ⟨vz23459_3, he, hrow, hRvz23459_3⟩ := hR
                          replace he := he.symm
                          subst he
                          refine ⟨[vz23459_3, .int .i64 u23458.2.At], hrow, fun a hS => ?_⟩
                          replace hS := hS.fact (SlF (Rep.int .i64) vz23459_3 u23458.2.L) (SlR.back (i := 1) rfl hRvz23459_3)
                          refine wl rfl (ky (v := .pointer (some ⟨b23450, 0 + 2, none⟩)) hS (y_fld hS rfl fl60_2) rfl rfl fun a hS => ?_)
                          refine wl rfl (k_store hS rfl rfl (us := [.int .i64 u23458.1]) rfl ty3 4 rfl rfl rfl (oc rfl on) fun w hk hS => ?_)
                          refine wpList_nil ?_
                          try simp only [Exit.then, Exit.inBlock, ↓reduceIte, Nat.reduceEqDiff]
                          refine hK920 _ _ ?_
                          refine seq_j (J := fun a w => ∃ (d23476 : (List Int)) (d23478 : Int) (x23479 : Int) (v23477 : Value), St W0 (fun k => k = b2) T 132 [(0, .pointer (some ⟨b2, 0, none⟩)), (3, v18222), (5, .int .i64 g18225), (7, .int .i64 b22102), (8, .pointer (some ⟨b22175, 0, none⟩)), (9, .int .i64 k23030), (10, .pointer (some ⟨b23450, 0, none⟩)), (11, .int .i64 most23457), (27, .int .i64 (l10477.length : Int)), (28, .int .i64 g18225)] [.own v18222 53 R_RuleD.size cl18223, .box b2 [v23477, .int .i64 d23478] 84, .own v23035 60 R_AskD.size cl23036, .box b22175 [.bool r22180, v23035, .int .i64 r22209, .int .i64 r22210] 53, .box b23450 [.bool x23455, .bool false, .int .i64 x23479, .int .i64 0] 60] [RowsF R_RuleD cl18223 l18221, SlF (Rep.int .i64) v23477 d23476, RowsF R_AskD cl23036 r23034] a w ∧ mill_Rules_j7 r22180 k23030 r23034 x23455 most23457 d23476 d23478 x23479 = some f2) ?_ ?_
                          · skip
                            refine seq_j (J := fun a w => ∃ (g23535 : Bool) (d23536 : (List Int)) (d23538 : Int) (v23537 : Value), St W0 (fun k => k = b2) T 132 [(0, .pointer (some ⟨b2, 0, none⟩)), (3, v18222), (5, .int .i64 g18225), (7, .int .i64 b22102), (8, .pointer (some ⟨b22175, 0, none⟩)), (9, .int .i64 k23030), (10, .pointer (some ⟨b23450, 0, none⟩)), (11, .int .i64 most23457), (27, .int .i64 (l10477.length : Int)), (28, .int .i64 g18225), (92, .bool g23535)] [.own v18222 53 R_RuleD.size cl18223, .box b2 [v23537, .int .i64 d23538] 84, .own v23035 60 R_AskD.size cl23036, .box b22175 [.bool r22180, v23035, .int .i64 r22209, .int .i64 r22210] 53, .box b23450 [.bool x23455, .bool false, .int .i64 u23458.1, .int .i64 0] 60] [RowsF R_RuleD cl18223 l18221, SlF (Rep.int .i64) v23537 d23536, RowsF R_AskD cl23036 r23034] a w ∧ mill_Rules_j8 r22180 k23030 r23034 x23455 most23457 u23458 g23535 d23536 d23538 = some f2) ?_ ?_
                            · skip
                              refine r_list ?_
                              refine wl rfl (ky (v := .pointer (some ⟨b23450, 0 + 0, none⟩)) hS (y_fld hS rfl fl60_0) rfl rfl fun a hS => ?_)
                              refine wl rfl (ky (v := .bool x23455) hS (y_load hS rfl ty4 4 rfl id (us := [.bool x23455]) rfl rfl (fun _ => rfl)) rfl rfl fun a hS => ?_)
                              refine wl rfl (ky (v := .bool (!(x23455))) hS (y_not hS rfl) rfl rfl fun a hS => ?_)
                              refine wl rfl (ky (v := .bool (!(x23455))) hS (y_move hS rfl) rfl rfl fun a hS => ?_)
                              rcases bool2 (!(x23455)) with hb23542 | hb23542
                              · replace hM := ct hb23542 hM
                                refine wg hS rfl rfl rfl hb23542 (ky (v := .pointer (some ⟨b2, 0, none⟩)) hS (y_move hS rfl) rfl rfl fun a hS => ?_)
                                obtain ⟨u23543, hu23543, hM⟩ := bd hM
                                refine wg hS rfl rfl rfl hb23542 (k_callm hS ci41 rfl rfl 1 rfl (dice_Next_c _ _ (hS.drop 1).dlt (DiceD.mk u23458.2.L u23458.2.At) 2 _ _ (hS.boxRow 1 rfl) (hS.notin 1 rfl) (SlR.lent (i := 1) rfl (hS.get 0 rfl)) _ hu23543) fun _ w hR hk => ?_)
                                obtain ⟨vz23544_3, he, hrow, hRvz23544_3⟩ := hR
                                replace he := he.symm
                                subst he
                                refine ⟨[vz23544_3, .int .i64 u23543.2.At], hrow, fun a hS => ?_⟩
                                replace hS := hS.fact (SlF (Rep.int .i64) vz23544_3 u23543.2.L) (SlR.back (i := 1) rfl hRvz23544_3)
                                refine wg hS rfl rfl rfl hb23542 (ky (v := .bool ((u23543.1 : Int) == 0)) hS (y_int hS rfl rfl rfl) rfl rfl fun a hS => ?_)
                                refine wl rfl (ky (v := .bool ((u23543.1 : Int) == 0)) hS (y_pickt hS rfl hb23542 rfl) rfl rfl fun a hS => ?_)
                                refine wpList_nil ?_
                                try simp only [Exit.then, Exit.inBlock, ↓reduceIte, Nat.reduceEqDiff]
                                exact ⟨((u23543.1 : Int) == 0), u23543.2.L, u23543.2.At, vz23544_3, (hS.meet [0, 1, 2, 3, 4] (by decide) ⟨rfl, rfl, rfl, rfl, rfl, rfl, rfl, rfl, rfl, rfl, rfl, trivial⟩ ⟨rfl, rfl, rfl, rfl, rfl, trivial⟩ ⟨⟨2, rfl⟩, ⟨0, rfl⟩, ⟨4, rfl⟩, trivial⟩), hM⟩
                              · replace hM := cf hb23542 hM
                                refine wn hS rfl rfl rfl hb23542 rfl rfl fun a hS => ?_
                                refine wn hS rfl rfl rfl hb23542 rfl rfl fun a hS => ?_
                                refine wn hS rfl rfl rfl hb23542 rfl rfl fun a hS => ?_
                                refine wl rfl (ky (v := .bool false) hS (y_pickf hS rfl hb23542 rfl) rfl rfl fun a hS => ?_)
                                refine wpList_nil ?_
                                try simp only [Exit.then, Exit.inBlock, ↓reduceIte, Nat.reduceEqDiff]
                                exact ⟨false, u23458.2.L, u23458.2.At, vz23459_3, (hS.meet [0, 1, 2, 3, 4] (by decide) ⟨rfl, rfl, rfl, rfl, rfl, rfl, rfl, rfl, rfl, rfl, rfl, trivial⟩ ⟨rfl, rfl, rfl, rfl, rfl, trivial⟩ ⟨⟨1, rfl⟩, ⟨0, rfl⟩, ⟨3, rfl⟩, trivial⟩), hM⟩
                            · rintro a w ⟨g23535, d23536, d23538, v23537, hS, hM⟩
                              unfold mill_Rules_j8 at hM
                              rcases bool2 (g23535) with hb23539 | hb23539
                              · replace hM := ct hb23539 hM
                                refine c_t hS rfl hb23539 ?_
                                refine r_list ?_
                                refine wl rfl (ky (v := .int .i64 most23457) hS (y_move hS rfl) rfl rfl fun a hS => ?_)
                                refine wl rfl (ky (v := .int .i64 (IntKind.i64.wrap (most23457 - 1))) hS (y_int hS rfl rfl rfl) rfl rfl fun a hS => ?_)
                                refine wl rfl (ky (v := .pointer (some ⟨b2, 0, none⟩)) hS (y_move hS rfl) rfl rfl fun a hS => ?_)
                                refine wl rfl (ky (v := .int .i64 most23457) hS (y_move hS rfl) rfl rfl fun a hS => ?_)
                                refine wl rfl (ky (v := .int .i64 (min most23457 3)) hS (y_min hS rfl rfl) rfl rfl fun a hS => ?_)
                                obtain ⟨u23540, hu23540, hM⟩ := bd hM
                                refine wl rfl (k_callm hS ci41 rfl rfl 1 rfl (dice_Next_c _ _ (hS.drop 1).dlt (DiceD.mk d23536 d23538) (min most23457 3) _ _ (hS.boxRow 1 rfl) (hS.notin 1 rfl) (SlR.lent (i := 1) rfl (hS.get 1 rfl)) _ hu23540) fun _ w hR hk => ?_)
                                obtain ⟨vz23541_3, he, hrow, hRvz23541_3⟩ := hR
                                replace he := he.symm
                                subst he
                                refine ⟨[vz23541_3, .int .i64 u23540.2.At], hrow, fun a hS => ?_⟩
                                replace hS := hS.fact (SlF (Rep.int .i64) vz23541_3 u23540.2.L) (SlR.back (i := 1) rfl hRvz23541_3)
                                refine wl rfl (ky (v := .int .i64 (IntKind.i64.wrap ((IntKind.i64.wrap (most23457 - 1)) - u23540.1))) hS (y_int hS rfl rfl rfl) rfl rfl fun a hS => ?_)
                                refine wl rfl (ky (v := .pointer (some ⟨b23450, 0 + 2, none⟩)) hS (y_fld hS rfl fl60_2) rfl rfl fun a hS => ?_)
                                refine wl rfl (k_store hS rfl rfl (us := [.int .i64 (IntKind.i64.wrap ((IntKind.i64.wrap (most23457 - 1)) - u23540.1))]) rfl ty3 4 rfl rfl rfl (oc rfl on) fun w hk hS => ?_)
                                refine wpList_nil ?_
                                try simp only [Exit.then, Exit.inBlock, ↓reduceIte, Nat.reduceEqDiff]
                                exact ⟨u23540.2.L, u23540.2.At, (IntKind.i64.wrap ((IntKind.i64.wrap (most23457 - 1)) - u23540.1)), vz23541_3, (hS.meet [0, 1, 2, 3, 4] (by decide) ⟨rfl, rfl, rfl, rfl, rfl, rfl, rfl, rfl, rfl, rfl, trivial⟩ ⟨rfl, rfl, rfl, rfl, rfl, trivial⟩ ⟨⟨1, rfl⟩, ⟨0, rfl⟩, ⟨3, rfl⟩, trivial⟩), hM⟩
                              · replace hM := cf hb23539 hM
                                refine c_f hS rfl hb23539 ?_
                                refine wp_skip ?_
                                try simp only [Exit.then, Exit.inBlock, ↓reduceIte, Nat.reduceEqDiff]
                                exact ⟨d23536, d23538, u23458.1, v23537, (hS.meet [0, 1, 2, 3, 4] (by decide) ⟨rfl, rfl, rfl, rfl, rfl, rfl, rfl, rfl, rfl, rfl, trivial⟩ ⟨rfl, rfl, rfl, rfl, rfl, trivial⟩ ⟨⟨0, rfl⟩, ⟨1, rfl⟩, ⟨2, rfl⟩, trivial⟩), hM⟩
                          · rintro a w ⟨d23476, d23478, x23479, v23477, hS, hM⟩
                            unfold mill_Rules_j7 at hM
                            refine seq_j (J := fun a w => ∃ (d23499 : (List Int)) (d23501 : Int) (x23502 : Bool) (x23503 : Int) (v23500 : Value), St W0 (fun k => k = b2) T 132 [(0, .pointer (some ⟨b2, 0, none⟩)), (3, v18222), (5, .int .i64 g18225), (7, .int .i64 b22102), (8, .pointer (some ⟨b22175, 0, none⟩)), (9, .int .i64 k23030), (10, .pointer (some ⟨b23450, 0, none⟩)), (27, .int .i64 (l10477.length : Int)), (28, .int .i64 g18225)] [.own v18222 53 R_RuleD.size cl18223, .box b2 [v23500, .int .i64 d23501] 84, .own v23035 60 R_AskD.size cl23036, .box b22175 [.bool r22180, v23035, .int .i64 r22209, .int .i64 r22210] 53, .box b23450 [.bool x23455, .bool x23502, .int .i64 x23479, .int .i64 x23503] 60] [RowsF R_RuleD cl18223 l18221, SlF (Rep.int .i64) v23500 d23499, RowsF R_AskD cl23036 r23034] a w ∧ mill_Rules_j5 k23030 r23034 x23455 x23479 d23499 d23501 x23502 x23503 = some f2) ?_ ?_
                            · skip
                              refine seq_j (J := fun a w => ∃ (g23518 : Bool) (d23519 : (List Int)) (d23521 : Int) (v23520 : Value), St W0 (fun k => k = b2) T 132 [(0, .pointer (some ⟨b2, 0, none⟩)), (3, v18222), (5, .int .i64 g18225), (7, .int .i64 b22102), (8, .pointer (some ⟨b22175, 0, none⟩)), (9, .int .i64 k23030), (10, .pointer (some ⟨b23450, 0, none⟩)), (11, .int .i64 most23457), (27, .int .i64 (l10477.length : Int)), (28, .int .i64 g18225), (114, .bool g23518)] [.own v18222 53 R_RuleD.size cl18223, .box b2 [v23520, .int .i64 d23521] 84, .own v23035 60 R_AskD.size cl23036, .box b22175 [.bool r22180, v23035, .int .i64 r22209, .int .i64 r22210] 53, .box b23450 [.bool x23455, .bool false, .int .i64 x23479, .int .i64 0] 60] [RowsF R_RuleD cl18223 l18221, SlF (Rep.int .i64) v23520 d23519, RowsF R_AskD cl23036 r23034] a w ∧ mill_Rules_j6 k23030 r23034 x23455 most23457 x23479 g23518 d23519 d23521 = some f2) ?_ ?_
                              · skip
                                refine r_list ?_
                                refine wl rfl (ky (v := .pointer (some ⟨b22175, 0 + 0, none⟩)) hS (y_fld hS rfl fl53_0) rfl rfl fun a hS => ?_)
                                refine wl rfl (ky (v := .bool r22180) hS (y_load hS rfl ty4 3 rfl id (us := [.bool r22180]) rfl rfl (fun _ => rfl)) rfl rfl fun a hS => ?_)
                                refine wl rfl (ky (v := .bool (!(r22180))) hS (y_not hS rfl) rfl rfl fun a hS => ?_)
                                refine wl rfl (ky (v := .bool (!(r22180))) hS (y_move hS rfl) rfl rfl fun a hS => ?_)
                                rcases bool2 (!(r22180)) with hb23525 | hb23525
                                · replace hM := ct hb23525 hM
                                  refine wg hS rfl rfl rfl hb23525 (ky (v := .pointer (some ⟨b22175, 0 + 1, none⟩)) hS (y_fld hS rfl fl53_1) rfl rfl fun a hS => ?_)
                                  refine wg hS rfl rfl rfl hb23525 (ky (v := v23035) hS (y_load hS rfl ty51 3 rfl id (us := [v23035]) rfl rfl (fun _ => rfl)) rfl rfl fun a hS => ?_)
                                  refine wg hS rfl rfl rfl hb23525 (ky (v := .int .i64 (r23034.length : Int)) hS (y_leno (R := R_AskD) (xs := r23034) hS sl51 rfl 2 rfl 2 rfl) rfl rfl fun a hS => ?_)
                                  refine wg hS rfl rfl rfl hb23525 (ky (v := .bool (decide ((0 : Int) < (r23034.length : Int)))) hS (y_int hS rfl rfl rfl) rfl rfl fun a hS => ?_)
                                  refine wl rfl (ky (v := .bool (decide ((0 : Int) < (r23034.length : Int)))) hS (y_pickt hS rfl hb23525 rfl) rfl rfl fun a hS => ?_)
                                  refine wl rfl (ky (v := .bool (decide ((0 : Int) < (r23034.length : Int)))) hS (y_move hS rfl) rfl rfl fun a hS => ?_)
                                  rcases bool2 (decide ((0 : Int) < (r23034.length : Int))) with hb23526 | hb23526
                                  · replace hM := ct hb23526 hM
                                    refine wg hS rfl rfl rfl hb23526 (ky (v := .pointer (some ⟨b2, 0, none⟩)) hS (y_move hS rfl) rfl rfl fun a hS => ?_)
                                    obtain ⟨u23527, hu23527, hM⟩ := bd hM
                                    refine wg hS rfl rfl rfl hb23526 (k_callm hS ci41 rfl rfl 1 rfl (dice_Next_c _ _ (hS.drop 1).dlt (DiceD.mk d23476 d23478) 3 _ _ (hS.boxRow 1 rfl) (hS.notin 1 rfl) (SlR.lent (i := 1) rfl (hS.get 1 rfl)) _ hu23527) fun _ w hR hk => ?_)
                                    obtain ⟨vz23528_3, he, hrow, hRvz23528_3⟩ := hR
                                    replace he := he.symm
                                    subst he
                                    refine ⟨[vz23528_3, .int .i64 u23527.2.At], hrow, fun a hS => ?_⟩
                                    replace hS := hS.fact (SlF (Rep.int .i64) vz23528_3 u23527.2.L) (SlR.back (i := 1) rfl hRvz23528_3)
                                    refine wg hS rfl rfl rfl hb23526 (ky (v := .bool ((u23527.1 : Int) == 1)) hS (y_int hS rfl rfl rfl) rfl rfl fun a hS => ?_)
                                    refine wl rfl (ky (v := .bool ((u23527.1 : Int) == 1)) hS (y_pickt hS rfl hb23526 rfl) rfl rfl fun a hS => ?_)
                                    refine wpList_nil ?_
                                    try simp only [Exit.then, Exit.inBlock, ↓reduceIte, Nat.reduceEqDiff]
                                    exact ⟨((u23527.1 : Int) == 1), u23527.2.L, u23527.2.At, vz23528_3, (hS.meet [0, 1, 2, 3, 4] (by decide) ⟨rfl, rfl, rfl, rfl, rfl, rfl, rfl, rfl, rfl, rfl, rfl, trivial⟩ ⟨rfl, rfl, rfl, rfl, rfl, trivial⟩ ⟨⟨1, rfl⟩, ⟨0, rfl⟩, ⟨3, rfl⟩, trivial⟩), hM⟩
                                  · replace hM := cf hb23526 hM
                                    refine wn hS rfl rfl rfl hb23526 rfl rfl fun a hS => ?_
                                    refine wn hS rfl rfl rfl hb23526 rfl rfl fun a hS => ?_
                                    refine wn hS rfl rfl rfl hb23526 rfl rfl fun a hS => ?_
                                    refine wl rfl (ky (v := .bool false) hS (y_pickf hS rfl hb23526 rfl) rfl rfl fun a hS => ?_)
                                    refine wpList_nil ?_
                                    try simp only [Exit.then, Exit.inBlock, ↓reduceIte, Nat.reduceEqDiff]
                                    exact ⟨false, d23476, d23478, v23477, (hS.meet [0, 1, 2, 3, 4] (by decide) ⟨rfl, rfl, rfl, rfl, rfl, rfl, rfl, rfl, rfl, rfl, rfl, trivial⟩ ⟨rfl, rfl, rfl, rfl, rfl, trivial⟩ ⟨⟨0, rfl⟩, ⟨1, rfl⟩, ⟨2, rfl⟩, trivial⟩), hM⟩
                                · replace hM := cf hb23525 hM
                                  refine wn hS rfl rfl rfl hb23525 rfl rfl fun a hS => ?_
                                  refine wn hS rfl rfl rfl hb23525 rfl rfl fun a hS => ?_
                                  refine wn hS rfl rfl rfl hb23525 rfl rfl fun a hS => ?_
                                  refine wn hS rfl rfl rfl hb23525 rfl rfl fun a hS => ?_
                                  refine wl rfl (ky (v := .bool false) hS (y_pickf hS rfl hb23525 rfl) rfl rfl fun a hS => ?_)
                                  refine wl rfl (ky (v := .bool false) hS (y_move hS rfl) rfl rfl fun a hS => ?_)
                                  refine wn hS rfl rfl rfl rfl rfl rfl fun a hS => ?_
                                  refine wn hS rfl rfl rfl rfl rfl rfl fun a hS => ?_
                                  refine wn hS rfl rfl rfl rfl rfl rfl fun a hS => ?_
                                  refine wl rfl (ky (v := .bool false) hS (y_pickf hS rfl rfl rfl) rfl rfl fun a hS => ?_)
                                  refine wpList_nil ?_
                                  try simp only [Exit.then, Exit.inBlock, ↓reduceIte, Nat.reduceEqDiff]
                                  exact ⟨false, d23476, d23478, v23477, (hS.meet [0, 1, 2, 3, 4] (by decide) ⟨rfl, rfl, rfl, rfl, rfl, rfl, rfl, rfl, rfl, rfl, rfl, trivial⟩ ⟨rfl, rfl, rfl, rfl, rfl, trivial⟩ ⟨⟨0, rfl⟩, ⟨1, rfl⟩, ⟨2, rfl⟩, trivial⟩), hM⟩
                              · rintro a w ⟨g23518, d23519, d23521, v23520, hS, hM⟩
                                unfold mill_Rules_j6 at hM
                                rcases bool2 (g23518) with hb23522 | hb23522
                                · replace hM := ct hb23522 hM
                                  refine c_t hS rfl hb23522 ?_
                                  refine r_list ?_
                                  refine wl rfl (ky (v := .pointer (some ⟨b2, 0, none⟩)) hS (y_move hS rfl) rfl rfl fun a hS => ?_)
                                  refine wl rfl (ky (v := .int .i64 most23457) hS (y_move hS rfl) rfl rfl fun a hS => ?_)
                                  obtain ⟨u23523, hu23523, hM⟩ := bd hM
                                  refine wl rfl (k_callm hS ci41 rfl rfl 1 rfl (dice_Next_c _ _ (hS.drop 1).dlt (DiceD.mk d23519 d23521) most23457 _ _ (hS.boxRow 1 rfl) (hS.notin 1 rfl) (SlR.lent (i := 1) rfl (hS.get 1 rfl)) _ hu23523) fun _ w hR hk => ?_)
                                  obtain ⟨vz23524_3, he, hrow, hRvz23524_3⟩ := hR
                                  replace he := he.symm
                                  subst he
                                  refine ⟨[vz23524_3, .int .i64 u23523.2.At], hrow, fun a hS => ?_⟩
                                  replace hS := hS.fact (SlF (Rep.int .i64) vz23524_3 u23523.2.L) (SlR.back (i := 1) rfl hRvz23524_3)
                                  refine wl rfl (ky (v := .pointer (some ⟨b23450, 0 + 1, none⟩)) hS (y_fld hS rfl fl60_1) rfl rfl fun a hS => ?_)
                                  refine wl rfl (k_store hS rfl rfl (us := [.bool true]) rfl ty4 4 rfl rfl rfl (oc rfl on) fun w hk hS => ?_)
                                  refine wl rfl (ky (v := .pointer (some ⟨b23450, 0 + 3, none⟩)) hS (y_fld hS rfl fl60_3) rfl rfl fun a hS => ?_)
                                  refine wl rfl (k_store hS rfl rfl (us := [.int .i64 u23523.1]) rfl ty3 4 rfl rfl rfl (oc rfl on) fun w hk hS => ?_)
                                  refine wpList_nil ?_
                                  try simp only [Exit.then, Exit.inBlock, ↓reduceIte, Nat.reduceEqDiff]
                                  exact ⟨u23523.2.L, u23523.2.At, true, u23523.1, vz23524_3, (hS.meet [0, 1, 2, 3, 4] (by decide) ⟨rfl, rfl, rfl, rfl, rfl, rfl, rfl, rfl, rfl, trivial⟩ ⟨rfl, rfl, rfl, rfl, rfl, trivial⟩ ⟨⟨1, rfl⟩, ⟨0, rfl⟩, ⟨3, rfl⟩, trivial⟩), hM⟩
                                · replace hM := cf hb23522 hM
                                  refine c_f hS rfl hb23522 ?_
                                  refine wp_skip ?_
                                  try simp only [Exit.then, Exit.inBlock, ↓reduceIte, Nat.reduceEqDiff]
                                  exact ⟨d23519, d23521, false, 0, v23520, (hS.meet [0, 1, 2, 3, 4] (by decide) ⟨rfl, rfl, rfl, rfl, rfl, rfl, rfl, rfl, rfl, trivial⟩ ⟨rfl, rfl, rfl, rfl, rfl, trivial⟩ ⟨⟨0, rfl⟩, ⟨1, rfl⟩, ⟨2, rfl⟩, trivial⟩), hM⟩
                            · rintro a w ⟨d23499, d23501, x23502, x23503, v23500, hS, hM⟩
                              unfold mill_Rules_j5 at hM
                              refine r_list ?_
                              refine wl rfl (ky (v := .pointer (some ⟨b22175, 0 + 1, none⟩)) hS (y_fld hS rfl fl53_1) rfl rfl fun a hS => ?_)
                              refine wl rfl (ky (v := v23035) hS (y_load hS rfl ty51 3 rfl id (us := [v23035]) rfl rfl (fun _ => rfl)) rfl rfl fun a hS => ?_)
                              refine wl rfl (ky (v := .agg #[.bool x23455, .bool x23502, .int .i64 x23479, .int .i64 x23503]) hS (y_load hS rfl ty60 4 rfl id (us := [.bool x23455, .bool x23502, .int .i64 x23479, .int .i64 x23503]) rfl rfl (fun h => by cases h)) rfl rfl fun a hS => ?_)
                              refine wl rfl (k_bslice (ps := [(0, .tmp 122)]) hS el51 ze60 (zl := [.bool false, .bool false, .int .i64 0, .int .i64 0]) (by kernel_rfl) rfl (us := [[.bool x23455, .bool x23502, .int .i64 x23479, .int .i64 x23503]]) ⟨rfl, trivial⟩ (ws := [.bool x23455, .bool x23502, .int .i64 x23479, .int .i64 x23503]) rfl rfl rfl rfl fun b23504 a w hk hS => ?_)
                              replace hS := hS.lit (R := R_AskD) (us := [.bool x23455, .bool x23502, .int .i64 x23479, .int .i64 x23503]) (xs := [(AskD.mk x23455 x23502 x23479 x23503)]) 0 rfl (by decide) (RowsOk.one_ (R := R_AskD) (x := (AskD.mk x23455 x23502 x23479 x23503)) rfl) rfl rfl
                              replace hS := hS.freeze (R := R_AskD) 0 rfl 0 rfl
                              obtain ⟨hg23506, hM⟩ := gd_some hM
                              refine wl rfl (k_apps (R := R_AskD) (xs := r23034) (ys := [(AskD.mk x23455 x23502 x23479 x23503)]) hS el51 (by decide) (by decide) rfl rfl 2 rfl 4 rfl 0 rfl hg23506 rfl fun v23507 cl23508 a w hk hS => ?_)
                              refine wl rfl (ky (v := .pointer (some ⟨b22175, 0 + 1, none⟩)) hS (y_fld hS rfl fl53_1) rfl rfl fun a hS => ?_)
                              refine wl rfl (k_store hS rfl rfl (us := [v23507]) (cells1 (own_one (hS.own _ (List.mem_of_getElem? (i := 2) rfl)).1)) ty51 3 rfl rfl rfl (oc (own_one (hS.own _ (List.mem_of_getElem? (i := 2) rfl)).1) on) fun w hk hS => ?_)
                              refine wpList_nil ?_
                              try simp only [Exit.then, Exit.inBlock, ↓reduceIte, Nat.reduceEqDiff]
                              exact ⟨d23499, d23501, (r23034 ++ ([(AskD.mk x23455 x23502 x23479 x23503)])), v23507, cl23508, v23500, (hS.meet [0, 1, 2, 3] (by decide) ⟨rfl, rfl, rfl, rfl, rfl, rfl, rfl, rfl, trivial⟩ ⟨rfl, rfl, rfl, rfl, trivial⟩ ⟨⟨3, rfl⟩, ⟨4, rfl⟩, ⟨0, rfl⟩, trivial⟩), hM⟩
                    · rintro a w ⟨d23425, d23427, r23428, v23429, cl23430, v23426, hS, hM⟩
                      unfold mill_Rules_j4 at hM
                      refine r_list ?_
                      refine wl rfl (ky (v := .int .i64 k23030) hS (y_move hS rfl) rfl rfl fun a hS => ?_)
                      refine wl rfl (ky (v := .int .i64 (IntKind.i64.wrap (k23030 - 1))) hS (y_int hS rfl rfl rfl) rfl rfl fun a hS => ?_)
                      refine wl rfl (ky (v := .int .i64 (IntKind.i64.wrap (k23030 - 1))) hS (y_assign hS rfl) rfl rfl fun a hS => ?_)
                      refine wpList_nil ?_
                      try simp only [Exit.then, Exit.inBlock, ↓reduceIte, Nat.reduceEqDiff]
                      exact ⟨(IntKind.i64.wrap (k23030 - 1), d23425, d23427, r23428), (Option.some.inj hM).symm, (IntKind.i64.wrap (k23030 - 1)), d23425, d23427, r23428, v23429, cl23430, v23426, rfl, (hS.meet [0, 1, 2, 3] (by decide) ⟨rfl, rfl, rfl, rfl, rfl, rfl, rfl, rfl, trivial⟩ ⟨rfl, rfl, rfl, rfl, trivial⟩ ⟨⟨0, rfl⟩, ⟨1, rfl⟩, ⟨2, rfl⟩, trivial⟩)⟩
                  · replace hM := cf hb23301 hM
                    refine c_f hS rfl hb23301 ?_
                    refine wp_exit ?_
                    try simp only [Exit.then, Exit.inBlock, ↓reduceIte, Nat.reduceEqDiff]
                    injection hM with hM
                    subst hM
                    have hr := hf2 _ rfl
                    subst hr
                    have hM : mill_Rules_j3 l18221 g18225 r22180 r22209 r22210 d23031 d23033 r23034 = some f1 := hMo2
                    exact ⟨d23031, d23033, r23034, v23035, cl23036, v23032, (hS.meet [0, 1, 2, 3] (by decide) ⟨rfl, rfl, rfl, rfl, rfl, rfl, trivial⟩ ⟨rfl, rfl, rfl, rfl, trivial⟩ ⟨⟨0, rfl⟩, ⟨1, rfl⟩, ⟨2, rfl⟩, trivial⟩), hM⟩
                · rintro a w ⟨d22747, d22749, r22750, v22751, cl22752, v22748, hS, hM⟩
                  unfold mill_Rules_j3 at hM
                  refine r_list ?_
                  refine wl rfl (ky (v := v18222) hS (y_move hS rfl) rfl rfl fun a hS => ?_)
                  refine wl rfl (ky (v := .int .i64 g18225) hS (y_move hS rfl) rfl rfl fun a hS => ?_)
                  refine wl rfl (ky (v := .agg #[.bool r22180, v22751, .int .i64 r22209, .int .i64 r22210]) hS (y_load hS rfl ty53 3 rfl id (us := [.bool r22180, v22751, .int .i64 r22209, .int .i64 r22210]) rfl rfl (fun h => by cases h)) rfl rfl fun a hS => ?_)
                  obtain ⟨e22754, he22754, hM⟩ := bd hM
                  refine wl rfl (k_indexo (R := R_RuleD) hS sl49 ty53 rfl rfl 0 rfl 0 rfl he22754 rfl fun b22756 o22757 p22762 cs22759 hr22758 hO22760 hC22761 a hS => ?_)
                  obtain ⟨v22755, rfl, hv22755⟩ := hr22758
                  replace hS := hS.fact (SlF R_AskD v22755 e22754.Asks) hv22755
                  replace hS := hS.freeze (R := R_AskD) 2 rfl 3 rfl
                  refine wl rfl (k_storeo (R := R_RuleD) (k := 0) (cs := [.bool e22754.Ring, v22755, .int .i64 e22754.Final, .int .i64 e22754.C]) (us := [.bool r22180, v22751, .int .i64 r22209, .int .i64 r22210]) (x' := (RuleD.mk r22180 r22750 r22209 r22210)) hS rfl rfl rfl ty53 0 rfl 2 rfl hO22760 hC22761 he22754 (⟨_, rfl, (hS.get 1 rfl)⟩) rfl rfl (⟨_, rfl, (hS.get 0 rfl)⟩) fun cl22763 w hk hS => ?_)
                  refine wpList_nil ?_
                  try simp only [Exit.then, Exit.inBlock, ↓reduceIte, Nat.reduceEqDiff]
                  exact ⟨(l18221.set (Int.toNat g18225) (RuleD.mk r22180 r22750 r22209 r22210)), d22747, d22749, v18222, cl22763, v22748, (hS.meet [0, 1] (by decide) ⟨rfl, rfl, rfl, rfl, trivial⟩ ⟨rfl, rfl, trivial⟩ ⟨⟨0, rfl⟩, ⟨4, rfl⟩, trivial⟩), hM⟩
        · rintro a w ⟨l22083, d22087, d22089, v22084, cl22085, v22088, hS, hM⟩
          unfold mill_Rules_j2 at hM
          refine r_list ?_
          refine wl rfl (ky (v := .int .i64 (IntKind.i64.wrap (g18225 + 1))) hS (y_int hS rfl rfl rfl) rfl rfl fun a hS => ?_)
          refine wl rfl (ky (v := .int .i64 (IntKind.i64.wrap (g18225 + 1))) hS (y_move hS rfl) rfl rfl fun a hS => ?_)
          refine wpList_nil ?_
          try simp only [Exit.then, Exit.inBlock, ↓reduceIte, Nat.reduceEqDiff]
          exact ⟨(l22083, IntKind.i64.wrap (g18225 + 1), d22087, d22089), (Option.some.inj hM).symm, l22083, (IntKind.i64.wrap (g18225 + 1)), d22087, d22089, v22084, cl22085, v22088, rfl, (hS.meet [0, 1] (by decide) ⟨rfl, rfl, rfl, rfl, trivial⟩ ⟨rfl, rfl, trivial⟩ ⟨⟨0, rfl⟩, ⟨1, rfl⟩, trivial⟩)⟩
      · replace hM := cf hb20803 hM
        refine c_f hS rfl hb20803 ?_
        refine wp_exit ?_
        try simp only [Exit.then, Exit.inBlock, ↓reduceIte, Nat.reduceEqDiff]
        injection hM with hM
        subst hM
        have hr := hf1 _ rfl
        subst hr
        have hM : mill_Rules_j1 l18221 d18226 d18228 = some y := hMo1
        exact ⟨l18221, d18226, d18228, v18222, cl18223, v18227, (hS.meet [0, 1] (by decide) ⟨rfl, trivial⟩ ⟨rfl, rfl, trivial⟩ ⟨⟨0, rfl⟩, ⟨1, rfl⟩, trivial⟩), hM⟩
    · rintro a w ⟨l15640, d15644, d15646, v15641, cl15642, v15645, hS, hM⟩
      unfold mill_Rules_j1 at hM
      refine wp_seq_k fun K618 hK618 => ?_
      refine r_list ?_
      refine wl rfl (ky (v := v15641) hS (y_move hS rfl) rfl rfl fun a hS => ?_)
      refine wl rfl (ky (v := v15641) hS (y_assign hS rfl) rfl rfl fun a hS => ?_)
      refine wpList_nil ?_
      try simp only [Exit.then, Exit.inBlock, ↓reduceIte, Nat.reduceEqDiff]
      refine hK618 _ _ ?_
      refine wp_ret ?_
      injection hM with hM
      subst hM
      try simp only [Exit.then, Exit.inBlock, ↓reduceIte, Nat.reduceEqDiff]
      refine ret_ok hS Tryd.results28 (res_tmp hS rfl res_nil) ?_
      exact ⟨v15641, cl15642, v15645, rfl, hS.retOwnm ⟨.inr (List.mem_of_getElem? (i := 0) rfl), ⟨.inr (List.mem_of_getElem? (i := 1) rfl), trivial⟩⟩ 0 rfl 0 rfl 1 rfl (by decide), hS.boxRow 1 rfl, (SlR.up ⟨.inr (List.mem_of_getElem? (i := 0) rfl), ⟨.inr (List.mem_of_getElem? (i := 1) rfl), trivial⟩⟩ (hS.get 1 rfl))⟩
end Go.Proofs.YtappkgmbdoiocaaDoor
