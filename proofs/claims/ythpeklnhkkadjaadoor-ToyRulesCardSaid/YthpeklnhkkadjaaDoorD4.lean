/- What functions of the program compute; that they do. -/
import Derived.Test.YthpeklnhkkadjaaDoorMT
import Derived.Test.YthpeklnhkkadjaaDoorD1
set_option linter.unusedVariables false
set_option linter.unusedSimpArgs false
namespace Go.Proofs.YthpeklnhkkadjaaDoor
open Go.RowKit
noncomputable def toy_Block_j1 (first164 : Int) (after202 : Int) : Option (Int × Int) := some ((first164, after202))
noncomputable def toy_Block_l2 (rules_ : (List RuleD)) (after221 : Int) : Option (Fl (Int) (Int)) := cond (decide ((after221 : Int) < (rules_.length : Int))) ((getI rules_ after221).bind fun e249 => cond e249.Ring (some (.go (IntKind.i64.wrap (after221 + 1)))) (some (.out after221))) (some (.out after221))
noncomputable def toy_Block_j3 (rules_ : (List RuleD)) (n_1 : Int) (first164 : Int) : Option (Int × Int) := (loop (fun s : Int => toy_Block_l2 rules_ s) (IntKind.i64.wrap (n_1 + 1))).bind fun r => toy_Block_j1 first164 r
noncomputable def toy_Block_l4 (rules_ : (List RuleD)) (first275 : Int) : Option (Fl (Int) (Int)) := cond (decide ((0 : Int) < first275)) ((getI rules_ (IntKind.i64.wrap (first275 - 1))).bind fun e303 => cond e303.Ring (some (.go (IntKind.i64.wrap (first275 - 1)))) (some (.out first275))) (some (.out first275))
noncomputable def toy_Block (rules_ : (List RuleD)) (n_1 : Int) : Option (Int × Int) := cond (decide ((n_1 : Int) < 0)) (some ((0, 0))) (cond (decide (((rules_.length : Int) : Int) ≤ n_1)) (some ((0, 0))) ((getI rules_ n_1).bind fun e119 => cond (!(e119.Ring)) (some ((n_1, IntKind.i64.wrap (n_1 + 1)))) ((loop (fun s : Int => toy_Block_l4 rules_ s) n_1).bind fun r => toy_Block_j3 rules_ n_1 r)))
set_option maxRecDepth 100000 in
set_option maxHeartbeats 4000000 in
theorem toy_Block_c (T : Nat → Prop) (W0 : World) (hT : ∀ k, T k → k < W0.heap.size) (rules_ : (List RuleD)) (n_1 : Int) (v1 : Value) (hv1 : SlR R_RuleD T W0 v1 rules_) (y : Int × Int) (hM : toy_Block rules_ n_1 = some y) : Rets Tryd.prog No 32 [v1, .int .i64 n_1] W0 (fun v w' => v = .tuple #[.int .i64 y.1, .int .i64 y.2]) := by
  refine enter (c := _) Tryd.func32 rfl T 54 Tryd.ntmps32 hT rfl fun a hS => ?_
  replace hS := hS.fact (SlF R_RuleD v1 rules_) (SlR.dn hv1)
  unfold toy_Block at hM
  refine wp_seq_k fun K21 hK21 => ?_
  refine r_list ?_
  refine wl rfl (ky (v := .int .i64 0) hS (y_assign hS rfl) rfl rfl fun a hS => ?_)
  refine wl rfl (ky (v := .int .i64 0) hS (y_assign hS rfl) rfl rfl fun a hS => ?_)
  refine wpList_nil ?_
  try simp only [Exit.then, Exit.inBlock, ↓reduceIte, Nat.reduceEqDiff]
  refine hK21 _ _ ?_
  refine wp_seq_k fun K22 hK22 => ?_
  refine wp_seq_k fun K23 hK23 => ?_
  refine r_list ?_
  refine wl rfl (ky (v := .int .i64 n_1) hS (y_move hS rfl) rfl rfl fun a hS => ?_)
  refine wl rfl (ky (v := .bool (decide ((n_1 : Int) < 0))) hS (y_int hS rfl rfl rfl) rfl rfl fun a hS => ?_)
  refine wl rfl (ky (v := .bool (decide ((n_1 : Int) < 0))) hS (y_move hS rfl) rfl rfl fun a hS => ?_)
  rcases bool2 (decide ((n_1 : Int) < 0)) with hb117 | hb117
  · replace hM := ct hb117 hM
    refine wn hS rfl rfl rfl hb117 rfl rfl fun a hS => ?_
    refine wn hS rfl rfl rfl hb117 rfl rfl fun a hS => ?_
    refine wn hS rfl rfl rfl hb117 rfl rfl fun a hS => ?_
    refine wn hS rfl rfl rfl hb117 rfl rfl fun a hS => ?_
    refine wl rfl (ky (v := .bool true) hS (y_pickt hS rfl hb117 rfl) rfl rfl fun a hS => ?_)
    refine wpList_nil ?_
    try simp only [Exit.then, Exit.inBlock, ↓reduceIte, Nat.reduceEqDiff]
    refine hK23 _ _ ?_
    refine c_t hS rfl rfl ?_
    refine wp_seq_k fun K24 hK24 => ?_
    refine r_list ?_
    refine wl rfl (ky (v := .int .i64 0) hS (y_assign hS rfl) rfl rfl fun a hS => ?_)
    refine wl rfl (ky (v := .int .i64 0) hS (y_assign hS rfl) rfl rfl fun a hS => ?_)
    refine wpList_nil ?_
    try simp only [Exit.then, Exit.inBlock, ↓reduceIte, Nat.reduceEqDiff]
    refine hK24 _ _ ?_
    refine wp_ret ?_
    injection hM with hM
    subst hM
    try simp only [Exit.then, Exit.inBlock, ↓reduceIte, Nat.reduceEqDiff]
    refine ret_ok hS Tryd.results32 (res_tmp hS rfl (res_tmp hS rfl res_nil)) ?_
    exact rfl
  · replace hM := cf hb117 hM
    refine wg hS rfl rfl rfl hb117 (ky (v := .int .i64 n_1) hS (y_move hS rfl) rfl rfl fun a hS => ?_)
    refine wg hS rfl rfl rfl hb117 (ky (v := v1) hS (y_move hS rfl) rfl rfl fun a hS => ?_)
    refine wg hS rfl rfl rfl hb117 (ky (v := .int .i64 (rules_.length : Int)) hS (y_len (R := R_RuleD) (xs := rules_) hS sl44 rfl 0 rfl) rfl rfl fun a hS => ?_)
    refine wg hS rfl rfl rfl hb117 (ky (v := .bool (decide (((rules_.length : Int) : Int) ≤ n_1))) hS (y_int hS rfl rfl rfl) rfl rfl fun a hS => ?_)
    refine wl rfl (ky (v := .bool (decide (((rules_.length : Int) : Int) ≤ n_1))) hS (y_pickf hS rfl hb117 rfl) rfl rfl fun a hS => ?_)
    refine wpList_nil ?_
    try simp only [Exit.then, Exit.inBlock, ↓reduceIte, Nat.reduceEqDiff]
    refine hK23 _ _ ?_
    rcases bool2 (decide (((rules_.length : Int) : Int) ≤ n_1)) with hb118 | hb118
    · replace hM := ct hb118 hM
      refine c_t hS rfl hb118 ?_
      refine wp_seq_k fun K25 hK25 => ?_
      refine r_list ?_
      refine wl rfl (ky (v := .int .i64 0) hS (y_assign hS rfl) rfl rfl fun a hS => ?_)
      refine wl rfl (ky (v := .int .i64 0) hS (y_assign hS rfl) rfl rfl fun a hS => ?_)
      refine wpList_nil ?_
      try simp only [Exit.then, Exit.inBlock, ↓reduceIte, Nat.reduceEqDiff]
      refine hK25 _ _ ?_
      refine wp_ret ?_
      injection hM with hM
      subst hM
      try simp only [Exit.then, Exit.inBlock, ↓reduceIte, Nat.reduceEqDiff]
      refine ret_ok hS Tryd.results32 (res_tmp hS rfl (res_tmp hS rfl res_nil)) ?_
      exact rfl
    · replace hM := cf hb118 hM
      refine c_f hS rfl hb118 ?_
      refine wp_skip ?_
      try simp only [Exit.then, Exit.inBlock, ↓reduceIte, Nat.reduceEqDiff]
      refine hK22 _ _ ?_
      refine wp_seq_k fun K26 hK26 => ?_
      refine r_list ?_
      refine wl rfl (ky (v := .int .i64 n_1) hS (y_move hS rfl) rfl rfl fun a hS => ?_)
      refine wl rfl (ky (v := .int .i64 n_1) hS (y_move hS rfl) rfl rfl fun a hS => ?_)
      refine wl rfl (ky (v := .int .i64 (IntKind.i64.wrap (n_1 + 1))) hS (y_int hS rfl rfl rfl) rfl rfl fun a hS => ?_)
      refine wl rfl (ky (v := .int .i64 n_1) hS (y_assign hS rfl) rfl rfl fun a hS => ?_)
      refine wl rfl (ky (v := .int .i64 (IntKind.i64.wrap (n_1 + 1))) hS (y_assign hS rfl) rfl rfl fun a hS => ?_)
      refine wpList_nil ?_
      try simp only [Exit.then, Exit.inBlock, ↓reduceIte, Nat.reduceEqDiff]
      refine hK26 _ _ ?_
      refine wp_seq_k fun K27 hK27 => ?_
      refine wp_seq_k fun K28 hK28 => ?_
      refine r_list ?_
      refine wl rfl (ky (v := v1) hS (y_move hS rfl) rfl rfl fun a hS => ?_)
      refine wl rfl (ky (v := .int .i64 n_1) hS (y_move hS rfl) rfl rfl fun a hS => ?_)
      obtain ⟨e119, he119, hM⟩ := bd hM
      refine wl rfl (k_index (R := R_RuleD) hS sl44 ty48 rfl rfl 0 rfl he119 rfl fun b121 o122 cs124 hr123 a hS => ?_)
      obtain ⟨v120, rfl, hv120⟩ := hr123
      replace hS := hS.fact (SlF R_AskD v120 e119.Asks) hv120
      refine wl rfl (ky (v := .pointer (some ⟨b121, o122 + 0, none⟩)) hS (y_fld hS rfl fl48_0) rfl rfl fun a hS => ?_)
      refine wl rfl (ky (v := .bool e119.Ring) hS (y_loadc (k := 0) hS ty4 1 rfl rfl (fun _ h => h.elim) (us := [.bool e119.Ring]) rfl rfl (fun _ => rfl)) rfl rfl fun a hS => ?_)
      refine wl rfl (ky (v := .bool (!(e119.Ring))) hS (y_not hS rfl) rfl rfl fun a hS => ?_)
      refine wpList_nil ?_
      try simp only [Exit.then, Exit.inBlock, ↓reduceIte, Nat.reduceEqDiff]
      refine hK28 _ _ ?_
      rcases bool2 (!(e119.Ring)) with hb126 | hb126
      · replace hM := ct hb126 hM
        refine c_t hS rfl hb126 ?_
        refine wp_seq_k fun K29 hK29 => ?_
        refine r_list ?_
        refine wl rfl (ky (v := .int .i64 n_1) hS (y_move hS rfl) rfl rfl fun a hS => ?_)
        refine wl rfl (ky (v := .int .i64 (IntKind.i64.wrap (n_1 + 1))) hS (y_move hS rfl) rfl rfl fun a hS => ?_)
        refine wl rfl (ky (v := .int .i64 n_1) hS (y_assign hS rfl) rfl rfl fun a hS => ?_)
        refine wl rfl (ky (v := .int .i64 (IntKind.i64.wrap (n_1 + 1))) hS (y_assign hS rfl) rfl rfl fun a hS => ?_)
        refine wpList_nil ?_
        try simp only [Exit.then, Exit.inBlock, ↓reduceIte, Nat.reduceEqDiff]
        refine hK29 _ _ ?_
        refine wp_ret ?_
        injection hM with hM
        subst hM
        try simp only [Exit.then, Exit.inBlock, ↓reduceIte, Nat.reduceEqDiff]
        refine ret_ok hS Tryd.results32 (res_tmp hS rfl (res_tmp hS rfl res_nil)) ?_
        exact rfl
      · replace hM := cf hb126 hM
        refine c_f hS rfl hb126 ?_
        refine wp_skip ?_
        try simp only [Exit.then, Exit.inBlock, ↓reduceIte, Nat.reduceEqDiff]
        refine hK27 _ _ ?_
        refine seq_j (J := fun a w => ∃ (first164 : Int), St W0 No T 54 [(0, v1), (6, .int .i64 first164), (7, .int .i64 (IntKind.i64.wrap (n_1 + 1)))] [] [SlF R_RuleD v1 rules_] a w ∧ toy_Block_j3 rules_ n_1 first164 = some y) ?_ ?_
        · skip
          refine wp_block ?_
          obtain ⟨r1, hl1, hMo1⟩ := bd hM
          refine wp_lp (fun s : Int => toy_Block_l4 rules_ s) (fun s a w => ∃ (first275 : Int), first275 = s ∧ St W0 No T 54 [(0, v1), (6, .int .i64 first275), (7, .int .i64 (IntKind.i64.wrap (n_1 + 1)))] [] [SlF R_RuleD v1 rules_] a w) hl1 ⟨n_1, rfl, (hS.meet [] (by decide) ⟨rfl, rfl, rfl, trivial⟩ trivial ⟨⟨2, rfl⟩, trivial⟩)⟩ ?_
          rintro s a w f1 ⟨first275, rfl, hS⟩ hM hf1
          have hM : toy_Block_l4 rules_ first275 = some f1 := hM
          unfold toy_Block_l4 at hM
          refine wp_seq_k fun K49 hK49 => ?_
          refine wp_seq_k fun K50 hK50 => ?_
          refine r_list ?_
          refine wl rfl (ky (v := .int .i64 first275) hS (y_move hS rfl) rfl rfl fun a hS => ?_)
          refine wl rfl (ky (v := .bool (decide ((0 : Int) < first275))) hS (y_int hS rfl rfl rfl) rfl rfl fun a hS => ?_)
          refine wl rfl (ky (v := .bool (decide ((0 : Int) < first275))) hS (y_move hS rfl) rfl rfl fun a hS => ?_)
          rcases bool2 (decide ((0 : Int) < first275)) with hb302 | hb302
          · replace hM := ct hb302 hM
            refine wg hS rfl rfl rfl hb302 (ky (v := v1) hS (y_move hS rfl) rfl rfl fun a hS => ?_)
            refine wg hS rfl rfl rfl hb302 (ky (v := .int .i64 first275) hS (y_move hS rfl) rfl rfl fun a hS => ?_)
            refine wg hS rfl rfl rfl hb302 (ky (v := .int .i64 (IntKind.i64.wrap (first275 - 1))) hS (y_int hS rfl rfl rfl) rfl rfl fun a hS => ?_)
            obtain ⟨e303, he303, hM⟩ := bd hM
            refine wg hS rfl rfl rfl hb302 (k_index (R := R_RuleD) hS sl44 ty48 rfl rfl 0 rfl he303 rfl fun b305 o306 cs308 hr307 a hS => ?_)
            obtain ⟨v304, rfl, hv304⟩ := hr307
            replace hS := hS.fact (SlF R_AskD v304 e303.Asks) hv304
            refine wg hS rfl rfl rfl hb302 (ky (v := .pointer (some ⟨b305, o306 + 0, none⟩)) hS (y_fld hS rfl fl48_0) rfl rfl fun a hS => ?_)
            refine wg hS rfl rfl rfl hb302 (ky (v := .bool e303.Ring) hS (y_loadc (k := 0) hS ty4 1 rfl rfl (fun _ h => h.elim) (us := [.bool e303.Ring]) rfl rfl (fun _ => rfl)) rfl rfl fun a hS => ?_)
            refine wl rfl (ky (v := .bool e303.Ring) hS (y_pickt hS rfl hb302 rfl) rfl rfl fun a hS => ?_)
            refine wpList_nil ?_
            try simp only [Exit.then, Exit.inBlock, ↓reduceIte, Nat.reduceEqDiff]
            refine hK50 _ _ ?_
            rcases bool2 (e303.Ring) with hb310 | hb310
            · replace hM := ct hb310 hM
              refine c_t hS rfl hb310 ?_
              refine wp_skip ?_
              try simp only [Exit.then, Exit.inBlock, ↓reduceIte, Nat.reduceEqDiff]
              refine hK49 _ _ ?_
              refine wp_block ?_
              refine r_list ?_
              refine wl rfl (ky (v := .int .i64 first275) hS (y_move hS rfl) rfl rfl fun a hS => ?_)
              refine wl rfl (ky (v := .int .i64 (IntKind.i64.wrap (first275 - 1))) hS (y_int hS rfl rfl rfl) rfl rfl fun a hS => ?_)
              refine wl rfl (ky (v := .int .i64 (IntKind.i64.wrap (first275 - 1))) hS (y_assign hS rfl) rfl rfl fun a hS => ?_)
              refine wpList_nil ?_
              try simp only [Exit.then, Exit.inBlock, ↓reduceIte, Nat.reduceEqDiff]
              exact ⟨IntKind.i64.wrap (first275 - 1), (Option.some.inj hM).symm, (IntKind.i64.wrap (first275 - 1)), rfl, (hS.meet [] (by decide) ⟨rfl, rfl, rfl, trivial⟩ trivial ⟨⟨2, rfl⟩, trivial⟩)⟩
            · replace hM := cf hb310 hM
              refine c_f hS rfl hb310 ?_
              refine wp_exit ?_
              try simp only [Exit.then, Exit.inBlock, ↓reduceIte, Nat.reduceEqDiff]
              injection hM with hM
              subst hM
              have hr := hf1 _ rfl
              subst hr
              have hM : toy_Block_j3 rules_ n_1 first275 = some y := hMo1
              exact ⟨first275, (hS.meet [] (by decide) ⟨rfl, rfl, rfl, trivial⟩ trivial ⟨⟨2, rfl⟩, trivial⟩), hM⟩
          · replace hM := cf hb302 hM
            refine wn hS rfl rfl rfl hb302 rfl rfl fun a hS => ?_
            refine wn hS rfl rfl rfl hb302 rfl rfl fun a hS => ?_
            refine wn hS rfl rfl rfl hb302 rfl rfl fun a hS => ?_
            refine wn hS rfl rfl rfl hb302 rfl rfl fun a hS => ?_
            refine wn hS rfl rfl rfl hb302 rfl rfl fun a hS => ?_
            refine wn hS rfl rfl rfl hb302 rfl rfl fun a hS => ?_
            refine wl rfl (ky (v := .bool false) hS (y_pickf hS rfl hb302 rfl) rfl rfl fun a hS => ?_)
            refine wpList_nil ?_
            try simp only [Exit.then, Exit.inBlock, ↓reduceIte, Nat.reduceEqDiff]
            refine hK50 _ _ ?_
            refine c_f hS rfl rfl ?_
            refine wp_exit ?_
            try simp only [Exit.then, Exit.inBlock, ↓reduceIte, Nat.reduceEqDiff]
            injection hM with hM
            subst hM
            have hr := hf1 _ rfl
            subst hr
            have hM : toy_Block_j3 rules_ n_1 first275 = some y := hMo1
            exact ⟨first275, (hS.meet [] (by decide) ⟨rfl, rfl, rfl, trivial⟩ trivial ⟨⟨0, rfl⟩, trivial⟩), hM⟩
        · rintro a w ⟨first164, hS, hM⟩
          unfold toy_Block_j3 at hM
          refine seq_j (J := fun a w => ∃ (after202 : Int), St W0 No T 54 [(6, .int .i64 first164), (7, .int .i64 after202)] [] [] a w ∧ toy_Block_j1 first164 after202 = some y) ?_ ?_
          · skip
            refine wp_block ?_
            obtain ⟨r1, hl1, hMo1⟩ := bd hM
            refine wp_lp (fun s : Int => toy_Block_l2 rules_ s) (fun s a w => ∃ (after221 : Int), after221 = s ∧ St W0 No T 54 [(0, v1), (6, .int .i64 first164), (7, .int .i64 after221)] [] [SlF R_RuleD v1 rules_] a w) hl1 ⟨(IntKind.i64.wrap (n_1 + 1)), rfl, (hS.meet [] (by decide) ⟨rfl, rfl, rfl, trivial⟩ trivial ⟨⟨0, rfl⟩, trivial⟩)⟩ ?_
            rintro s a w f1 ⟨after221, rfl, hS⟩ hM hf1
            have hM : toy_Block_l2 rules_ after221 = some f1 := hM
            unfold toy_Block_l2 at hM
            refine wp_seq_k fun K43 hK43 => ?_
            refine wp_seq_k fun K44 hK44 => ?_
            refine r_list ?_
            refine wl rfl (ky (v := .int .i64 after221) hS (y_move hS rfl) rfl rfl fun a hS => ?_)
            refine wl rfl (ky (v := v1) hS (y_move hS rfl) rfl rfl fun a hS => ?_)
            refine wl rfl (ky (v := .int .i64 (rules_.length : Int)) hS (y_len (R := R_RuleD) (xs := rules_) hS sl44 rfl 0 rfl) rfl rfl fun a hS => ?_)
            refine wl rfl (ky (v := .bool (decide ((after221 : Int) < (rules_.length : Int)))) hS (y_int hS rfl rfl rfl) rfl rfl fun a hS => ?_)
            refine wl rfl (ky (v := .bool (decide ((after221 : Int) < (rules_.length : Int)))) hS (y_move hS rfl) rfl rfl fun a hS => ?_)
            rcases bool2 (decide ((after221 : Int) < (rules_.length : Int))) with hb248 | hb248
            · replace hM := ct hb248 hM
              refine wg hS rfl rfl rfl hb248 (ky (v := v1) hS (y_move hS rfl) rfl rfl fun a hS => ?_)
              refine wg hS rfl rfl rfl hb248 (ky (v := .int .i64 after221) hS (y_move hS rfl) rfl rfl fun a hS => ?_)
              obtain ⟨e249, he249, hM⟩ := bd hM
              refine wg hS rfl rfl rfl hb248 (k_index (R := R_RuleD) hS sl44 ty48 rfl rfl 0 rfl he249 rfl fun b251 o252 cs254 hr253 a hS => ?_)
              obtain ⟨v250, rfl, hv250⟩ := hr253
              replace hS := hS.fact (SlF R_AskD v250 e249.Asks) hv250
              refine wg hS rfl rfl rfl hb248 (ky (v := .pointer (some ⟨b251, o252 + 0, none⟩)) hS (y_fld hS rfl fl48_0) rfl rfl fun a hS => ?_)
              refine wg hS rfl rfl rfl hb248 (ky (v := .bool e249.Ring) hS (y_loadc (k := 0) hS ty4 1 rfl rfl (fun _ h => h.elim) (us := [.bool e249.Ring]) rfl rfl (fun _ => rfl)) rfl rfl fun a hS => ?_)
              refine wl rfl (ky (v := .bool e249.Ring) hS (y_pickt hS rfl hb248 rfl) rfl rfl fun a hS => ?_)
              refine wpList_nil ?_
              try simp only [Exit.then, Exit.inBlock, ↓reduceIte, Nat.reduceEqDiff]
              refine hK44 _ _ ?_
              rcases bool2 (e249.Ring) with hb256 | hb256
              · replace hM := ct hb256 hM
                refine c_t hS rfl hb256 ?_
                refine wp_skip ?_
                try simp only [Exit.then, Exit.inBlock, ↓reduceIte, Nat.reduceEqDiff]
                refine hK43 _ _ ?_
                refine wp_block ?_
                refine r_list ?_
                refine wl rfl (ky (v := .int .i64 after221) hS (y_move hS rfl) rfl rfl fun a hS => ?_)
                refine wl rfl (ky (v := .int .i64 (IntKind.i64.wrap (after221 + 1))) hS (y_int hS rfl rfl rfl) rfl rfl fun a hS => ?_)
                refine wl rfl (ky (v := .int .i64 (IntKind.i64.wrap (after221 + 1))) hS (y_assign hS rfl) rfl rfl fun a hS => ?_)
                refine wpList_nil ?_
                try simp only [Exit.then, Exit.inBlock, ↓reduceIte, Nat.reduceEqDiff]
                exact ⟨IntKind.i64.wrap (after221 + 1), (Option.some.inj hM).symm, (IntKind.i64.wrap (after221 + 1)), rfl, (hS.meet [] (by decide) ⟨rfl, rfl, rfl, trivial⟩ trivial ⟨⟨2, rfl⟩, trivial⟩)⟩
              · replace hM := cf hb256 hM
                refine c_f hS rfl hb256 ?_
                refine wp_exit ?_
                try simp only [Exit.then, Exit.inBlock, ↓reduceIte, Nat.reduceEqDiff]
                injection hM with hM
                subst hM
                have hr := hf1 _ rfl
                subst hr
                have hM : toy_Block_j1 first164 after221 = some y := hMo1
                exact ⟨after221, (hS.meet [] (by decide) ⟨rfl, rfl, trivial⟩ trivial trivial), hM⟩
            · replace hM := cf hb248 hM
              refine wn hS rfl rfl rfl hb248 rfl rfl fun a hS => ?_
              refine wn hS rfl rfl rfl hb248 rfl rfl fun a hS => ?_
              refine wn hS rfl rfl rfl hb248 rfl rfl fun a hS => ?_
              refine wn hS rfl rfl rfl hb248 rfl rfl fun a hS => ?_
              refine wn hS rfl rfl rfl hb248 rfl rfl fun a hS => ?_
              refine wl rfl (ky (v := .bool false) hS (y_pickf hS rfl hb248 rfl) rfl rfl fun a hS => ?_)
              refine wpList_nil ?_
              try simp only [Exit.then, Exit.inBlock, ↓reduceIte, Nat.reduceEqDiff]
              refine hK44 _ _ ?_
              refine c_f hS rfl rfl ?_
              refine wp_exit ?_
              try simp only [Exit.then, Exit.inBlock, ↓reduceIte, Nat.reduceEqDiff]
              injection hM with hM
              subst hM
              have hr := hf1 _ rfl
              subst hr
              have hM : toy_Block_j1 first164 after221 = some y := hMo1
              exact ⟨after221, (hS.meet [] (by decide) ⟨rfl, rfl, trivial⟩ trivial trivial), hM⟩
          · rintro a w ⟨after202, hS, hM⟩
            unfold toy_Block_j1 at hM
            refine wp_seq_k fun K38 hK38 => ?_
            refine r_list ?_
            refine wl rfl (ky (v := .int .i64 first164) hS (y_move hS rfl) rfl rfl fun a hS => ?_)
            refine wl rfl (ky (v := .int .i64 after202) hS (y_move hS rfl) rfl rfl fun a hS => ?_)
            refine wl rfl (ky (v := .int .i64 first164) hS (y_assign hS rfl) rfl rfl fun a hS => ?_)
            refine wl rfl (ky (v := .int .i64 after202) hS (y_assign hS rfl) rfl rfl fun a hS => ?_)
            refine wpList_nil ?_
            try simp only [Exit.then, Exit.inBlock, ↓reduceIte, Nat.reduceEqDiff]
            refine hK38 _ _ ?_
            refine wp_ret ?_
            injection hM with hM
            subst hM
            try simp only [Exit.then, Exit.inBlock, ↓reduceIte, Nat.reduceEqDiff]
            refine ret_ok hS Tryd.results32 (res_tmp hS rfl (res_tmp hS rfl res_nil)) ?_
            exact rfl

noncomputable def toy_may_j1 (g42 : Bool) : Option Bool := some (g42)
noncomputable def toy_may_j2 (g66 : Bool) : Option Bool := some (g66)
noncomputable def toy_may (rules_ : (List RuleD)) (i_1 : Int) (cell_ : Bool) (n_3 : Int) : Option Bool := cond cell_ (cond (decide ((0 : Int) ≤ n_3)) (toy_may_j1 (decide ((n_3 : Int) ≤ 15))) (toy_may_j1 false)) ((toy_Block rules_ i_1).bind fun u44 => cond (decide ((0 : Int) ≤ n_3)) (cond (decide ((n_3 : Int) < u44.1)) (toy_may_j2 true) ((getI rules_ i_1).bind fun e69 => cond e69.Ring (toy_may_j2 (decide ((n_3 : Int) < u44.2))) (toy_may_j2 false))) (toy_may_j2 false))
set_option maxRecDepth 100000 in
set_option maxHeartbeats 4000000 in
theorem toy_may_c (T : Nat → Prop) (W0 : World) (hT : ∀ k, T k → k < W0.heap.size) (rules_ : (List RuleD)) (i_1 : Int) (cell_ : Bool) (n_3 : Int) (v1 : Value) (hv1 : SlR R_RuleD T W0 v1 rules_) (y : Bool) (hM : toy_may rules_ i_1 cell_ n_3 = some y) : Rets Tryd.prog No 91 [v1, .int .i64 i_1, .bool cell_, .int .i64 n_3] W0 (fun v w' => v = .bool y) := by
  refine enter (c := _) Tryd.func91 rfl T 43 Tryd.ntmps91 hT rfl fun a hS => ?_
  replace hS := hS.fact (SlF R_RuleD v1 rules_) (SlR.dn hv1)
  unfold toy_may at hM
  refine wp_seq_k fun K5 hK5 => ?_
  refine r_list ?_
  refine wl rfl (ky (v := .bool false) hS (y_assign hS rfl) rfl rfl fun a hS => ?_)
  refine wpList_nil ?_
  try simp only [Exit.then, Exit.inBlock, ↓reduceIte, Nat.reduceEqDiff]
  refine hK5 _ _ ?_
  refine wp_seq_k fun K6 hK6 => ?_
  refine wp_seq_k fun K7 hK7 => ?_
  refine r_list ?_
  refine wl rfl (ky (v := .bool cell_) hS (y_move hS rfl) rfl rfl fun a hS => ?_)
  refine wpList_nil ?_
  try simp only [Exit.then, Exit.inBlock, ↓reduceIte, Nat.reduceEqDiff]
  refine hK7 _ _ ?_
  rcases bool2 (cell_) with hb39 | hb39
  · replace hM := ct hb39 hM
    refine c_t hS rfl hb39 ?_
    refine seq_j (J := fun a w => ∃ (g42 : Bool), St W0 No T 43 [(8, .bool g42)] [] [] a w ∧ toy_may_j1 g42 = some y) ?_ ?_
    · skip
      refine r_list ?_
      refine wl rfl (ky (v := .int .i64 n_3) hS (y_move hS rfl) rfl rfl fun a hS => ?_)
      refine wl rfl (ky (v := .bool (decide ((0 : Int) ≤ n_3))) hS (y_int hS rfl rfl rfl) rfl rfl fun a hS => ?_)
      refine wl rfl (ky (v := .bool (decide ((0 : Int) ≤ n_3))) hS (y_move hS rfl) rfl rfl fun a hS => ?_)
      rcases bool2 (decide ((0 : Int) ≤ n_3)) with hb43 | hb43
      · replace hM := ct hb43 hM
        refine wg hS rfl rfl rfl hb43 (ky (v := .int .i64 n_3) hS (y_move hS rfl) rfl rfl fun a hS => ?_)
        refine wg hS rfl rfl rfl hb43 (ky (v := .bool (decide ((n_3 : Int) ≤ 15))) hS (y_int hS rfl rfl rfl) rfl rfl fun a hS => ?_)
        refine wl rfl (ky (v := .bool (decide ((n_3 : Int) ≤ 15))) hS (y_pickt hS rfl hb43 rfl) rfl rfl fun a hS => ?_)
        refine wl rfl (ky (v := .bool (decide ((n_3 : Int) ≤ 15))) hS (y_assign hS rfl) rfl rfl fun a hS => ?_)
        refine wpList_nil ?_
        try simp only [Exit.then, Exit.inBlock, ↓reduceIte, Nat.reduceEqDiff]
        exact ⟨(decide ((n_3 : Int) ≤ 15)), (hS.meet [] (by decide) ⟨rfl, trivial⟩ trivial trivial), hM⟩
      · replace hM := cf hb43 hM
        refine wn hS rfl rfl rfl hb43 rfl rfl fun a hS => ?_
        refine wn hS rfl rfl rfl hb43 rfl rfl fun a hS => ?_
        refine wl rfl (ky (v := .bool false) hS (y_pickf hS rfl hb43 rfl) rfl rfl fun a hS => ?_)
        refine wl rfl (ky (v := .bool false) hS (y_assign hS rfl) rfl rfl fun a hS => ?_)
        refine wpList_nil ?_
        try simp only [Exit.then, Exit.inBlock, ↓reduceIte, Nat.reduceEqDiff]
        exact ⟨false, (hS.meet [] (by decide) ⟨rfl, trivial⟩ trivial trivial), hM⟩
    · rintro a w ⟨g42, hS, hM⟩
      unfold toy_may_j1 at hM
      refine wp_ret ?_
      injection hM with hM
      subst hM
      try simp only [Exit.then, Exit.inBlock, ↓reduceIte, Nat.reduceEqDiff]
      refine ret_ok hS Tryd.results91 (res_tmp hS rfl res_nil) ?_
      exact rfl
  · replace hM := cf hb39 hM
    refine c_f hS rfl hb39 ?_
    refine wp_skip ?_
    try simp only [Exit.then, Exit.inBlock, ↓reduceIte, Nat.reduceEqDiff]
    refine hK6 _ _ ?_
    refine wp_seq_k fun K8 hK8 => ?_
    refine r_list ?_
    refine wl rfl (ky (v := v1) hS (y_move hS rfl) rfl rfl fun a hS => ?_)
    refine wl rfl (ky (v := .int .i64 i_1) hS (y_move hS rfl) rfl rfl fun a hS => ?_)
    obtain ⟨u44, hu44, hM⟩ := bd hM
    refine wl rfl (k_call hS ci32 rfl rfl (toy_Block_c _ _ hS.dlt rules_ i_1 _ (hS.get 0 rfl) _ hu44) fun _ w hR a hk hA => ?_)
    have he := Eq.symm hR
    subst he
    have hS := hA [] (fun r hr => by cases hr) List.Pairwise.nil
    refine wl rfl (ky (v := .tuple #[.int .i64 u44.1, .int .i64 u44.2]) hS (y_move hS rfl) rfl rfl fun a hS => ?_)
    refine wl rfl (ky (v := .int .i64 u44.1) hS (y_ex hS rfl rfl) rfl rfl fun a hS => ?_)
    refine wl rfl (ky (v := .int .i64 u44.2) hS (y_ex hS rfl rfl) rfl rfl fun a hS => ?_)
    refine wl rfl (ky (v := .int .i64 u44.1) hS (y_assign hS rfl) rfl rfl fun a hS => ?_)
    refine wl rfl (ky (v := .int .i64 u44.2) hS (y_assign hS rfl) rfl rfl fun a hS => ?_)
    refine wpList_nil ?_
    try simp only [Exit.then, Exit.inBlock, ↓reduceIte, Nat.reduceEqDiff]
    refine hK8 _ _ ?_
    refine seq_j (J := fun a w => ∃ (g66 : Bool), St W0 No T 43 [(8, .bool g66)] [] [] a w ∧ toy_may_j2 g66 = some y) ?_ ?_
    · skip
      refine r_list ?_
      refine wl rfl (ky (v := .int .i64 n_3) hS (y_move hS rfl) rfl rfl fun a hS => ?_)
      refine wl rfl (ky (v := .bool (decide ((0 : Int) ≤ n_3))) hS (y_int hS rfl rfl rfl) rfl rfl fun a hS => ?_)
      refine wl rfl (ky (v := .bool (decide ((0 : Int) ≤ n_3))) hS (y_move hS rfl) rfl rfl fun a hS => ?_)
      rcases bool2 (decide ((0 : Int) ≤ n_3)) with hb67 | hb67
      · replace hM := ct hb67 hM
        refine wg hS rfl rfl rfl hb67 (ky (v := .int .i64 n_3) hS (y_move hS rfl) rfl rfl fun a hS => ?_)
        refine wg hS rfl rfl rfl hb67 (ky (v := .int .i64 u44.1) hS (y_move hS rfl) rfl rfl fun a hS => ?_)
        refine wg hS rfl rfl rfl hb67 (ky (v := .bool (decide ((n_3 : Int) < u44.1))) hS (y_int hS rfl rfl rfl) rfl rfl fun a hS => ?_)
        refine wg hS rfl rfl rfl hb67 (ky (v := .bool (decide ((n_3 : Int) < u44.1))) hS (y_move hS rfl) rfl rfl fun a hS => ?_)
        rcases bool2 (decide ((n_3 : Int) < u44.1)) with hb68 | hb68
        · replace hM := ct hb68 hM
          refine wn hS rfl rfl rfl hb68 rfl rfl fun a hS => ?_
          refine wn hS rfl rfl rfl hb68 rfl rfl fun a hS => ?_
          refine wn hS rfl rfl rfl hb68 rfl rfl fun a hS => ?_
          refine wn hS rfl rfl rfl hb68 rfl rfl fun a hS => ?_
          refine wn hS rfl rfl rfl hb68 rfl rfl fun a hS => ?_
          refine wn hS rfl rfl rfl hb68 rfl rfl fun a hS => ?_
          refine wnu hS rfl rfl rfl rfl rfl fun a hS => ?_
          refine wnu hS rfl rfl rfl rfl rfl fun a hS => ?_
          refine wnu hS rfl rfl rfl rfl rfl fun a hS => ?_
          refine wn hS rfl rfl rfl hb68 rfl rfl fun a hS => ?_
          refine wg hS rfl rfl rfl hb67 (ky (v := .bool true) hS (y_pickt hS rfl hb68 rfl) rfl rfl fun a hS => ?_)
          refine wl rfl (ky (v := .bool true) hS (y_pickt hS rfl hb67 rfl) rfl rfl fun a hS => ?_)
          refine wl rfl (ky (v := .bool true) hS (y_assign hS rfl) rfl rfl fun a hS => ?_)
          refine wpList_nil ?_
          try simp only [Exit.then, Exit.inBlock, ↓reduceIte, Nat.reduceEqDiff]
          exact ⟨true, (hS.meet [] (by decide) ⟨rfl, trivial⟩ trivial trivial), hM⟩
        · replace hM := cf hb68 hM
          refine wg hS rfl rfl rfl hb68 (ky (v := v1) hS (y_move hS rfl) rfl rfl fun a hS => ?_)
          refine wg hS rfl rfl rfl hb68 (ky (v := .int .i64 i_1) hS (y_move hS rfl) rfl rfl fun a hS => ?_)
          obtain ⟨e69, he69, hM⟩ := bd hM
          refine wg hS rfl rfl rfl hb68 (k_index (R := R_RuleD) hS sl44 ty48 rfl rfl 0 rfl he69 rfl fun b71 o72 cs74 hr73 a hS => ?_)
          obtain ⟨v70, rfl, hv70⟩ := hr73
          replace hS := hS.fact (SlF R_AskD v70 e69.Asks) hv70
          refine wg hS rfl rfl rfl hb68 (ky (v := .pointer (some ⟨b71, o72 + 0, none⟩)) hS (y_fld hS rfl fl48_0) rfl rfl fun a hS => ?_)
          refine wg hS rfl rfl rfl hb68 (ky (v := .bool e69.Ring) hS (y_loadc (k := 0) hS ty4 1 rfl rfl (fun _ h => h.elim) (us := [.bool e69.Ring]) rfl rfl (fun _ => rfl)) rfl rfl fun a hS => ?_)
          refine wg hS rfl rfl rfl hb68 (ky (v := .bool e69.Ring) hS (y_move hS rfl) rfl rfl fun a hS => ?_)
          rcases bool2 (e69.Ring) with hb76 | hb76
          · replace hM := ct hb76 hM
            refine wg hS rfl rfl rfl hb76 (ky (v := .int .i64 n_3) hS (y_move hS rfl) rfl rfl fun a hS => ?_)
            refine wg hS rfl rfl rfl hb76 (ky (v := .int .i64 u44.2) hS (y_move hS rfl) rfl rfl fun a hS => ?_)
            refine wg hS rfl rfl rfl hb76 (ky (v := .bool (decide ((n_3 : Int) < u44.2))) hS (y_int hS rfl rfl rfl) rfl rfl fun a hS => ?_)
            refine wg hS rfl rfl rfl hb68 (ky (v := .bool (decide ((n_3 : Int) < u44.2))) hS (y_pickt hS rfl hb76 rfl) rfl rfl fun a hS => ?_)
            refine wg hS rfl rfl rfl hb67 (ky (v := .bool (decide ((n_3 : Int) < u44.2))) hS (y_pickf hS rfl hb68 rfl) rfl rfl fun a hS => ?_)
            refine wl rfl (ky (v := .bool (decide ((n_3 : Int) < u44.2))) hS (y_pickt hS rfl hb67 rfl) rfl rfl fun a hS => ?_)
            refine wl rfl (ky (v := .bool (decide ((n_3 : Int) < u44.2))) hS (y_assign hS rfl) rfl rfl fun a hS => ?_)
            refine wpList_nil ?_
            try simp only [Exit.then, Exit.inBlock, ↓reduceIte, Nat.reduceEqDiff]
            exact ⟨(decide ((n_3 : Int) < u44.2)), (hS.meet [] (by decide) ⟨rfl, trivial⟩ trivial trivial), hM⟩
          · replace hM := cf hb76 hM
            refine wn hS rfl rfl rfl hb76 rfl rfl fun a hS => ?_
            refine wn hS rfl rfl rfl hb76 rfl rfl fun a hS => ?_
            refine wn hS rfl rfl rfl hb76 rfl rfl fun a hS => ?_
            refine wg hS rfl rfl rfl hb68 (ky (v := .bool false) hS (y_pickf hS rfl hb76 rfl) rfl rfl fun a hS => ?_)
            refine wg hS rfl rfl rfl hb67 (ky (v := .bool false) hS (y_pickf hS rfl hb68 rfl) rfl rfl fun a hS => ?_)
            refine wl rfl (ky (v := .bool false) hS (y_pickt hS rfl hb67 rfl) rfl rfl fun a hS => ?_)
            refine wl rfl (ky (v := .bool false) hS (y_assign hS rfl) rfl rfl fun a hS => ?_)
            refine wpList_nil ?_
            try simp only [Exit.then, Exit.inBlock, ↓reduceIte, Nat.reduceEqDiff]
            exact ⟨false, (hS.meet [] (by decide) ⟨rfl, trivial⟩ trivial trivial), hM⟩
      · replace hM := cf hb67 hM
        refine wn hS rfl rfl rfl hb67 rfl rfl fun a hS => ?_
        refine wn hS rfl rfl rfl hb67 rfl rfl fun a hS => ?_
        refine wn hS rfl rfl rfl hb67 rfl rfl fun a hS => ?_
        refine wn hS rfl rfl rfl hb67 rfl rfl fun a hS => ?_
        refine wnu hS rfl rfl rfl rfl rfl fun a hS => ?_
        refine wnu hS rfl rfl rfl rfl rfl fun a hS => ?_
        refine wnu hS rfl rfl rfl rfl rfl fun a hS => ?_
        refine wnu hS rfl rfl rfl rfl rfl fun a hS => ?_
        refine wnu hS rfl rfl rfl rfl rfl fun a hS => ?_
        refine wnu hS rfl rfl rfl rfl rfl fun a hS => ?_
        refine wnu hS rfl rfl rfl rfl rfl fun a hS => ?_
        refine wnu hS rfl rfl rfl rfl rfl fun a hS => ?_
        refine wnu hS rfl rfl rfl rfl rfl fun a hS => ?_
        refine wnu hS rfl rfl rfl rfl rfl fun a hS => ?_
        refine wn hS rfl rfl rfl hb67 rfl rfl fun a hS => ?_
        refine wl rfl (ky (v := .bool false) hS (y_pickf hS rfl hb67 rfl) rfl rfl fun a hS => ?_)
        refine wl rfl (ky (v := .bool false) hS (y_assign hS rfl) rfl rfl fun a hS => ?_)
        refine wpList_nil ?_
        try simp only [Exit.then, Exit.inBlock, ↓reduceIte, Nat.reduceEqDiff]
        exact ⟨false, (hS.meet [] (by decide) ⟨rfl, trivial⟩ trivial trivial), hM⟩
    · rintro a w ⟨g66, hS, hM⟩
      unfold toy_may_j2 at hM
      refine wp_ret ?_
      injection hM with hM
      subst hM
      try simp only [Exit.then, Exit.inBlock, ↓reduceIte, Nat.reduceEqDiff]
      refine ret_ok hS Tryd.results91 (res_tmp hS rfl res_nil) ?_
      exact rfl

noncomputable def toy_right_j1 (rules_ : (List RuleD)) (i_1 : Int) (a_2 : AskD) (g85 : Bool) : Option Bool := cond g85 (some (false)) (cond (!(a_2.Pick)) (some ((a_2.Else : Int) == 0)) ((toy_may rules_ i_1 a_2.Cell a_2.Else).bind fun u88 => some (u88)))
noncomputable def toy_right (rules_ : (List RuleD)) (i_1 : Int) (a_2 : AskD) (first_ : Bool) : Option Bool := cond a_2.Pick ((getI rules_ i_1).bind fun e91 => cond e91.Ring (toy_right_j1 rules_ i_1 a_2 true) (cond first_ (toy_right_j1 rules_ i_1 a_2 true) ((toy_may rules_ i_1 a_2.Cell a_2.N).bind fun u100 => toy_right_j1 rules_ i_1 a_2 (!(u100))))) ((toy_may rules_ i_1 a_2.Cell a_2.N).bind fun u102 => toy_right_j1 rules_ i_1 a_2 (!(u102)))
set_option maxRecDepth 100000 in
set_option maxHeartbeats 4000000 in
theorem toy_right_c (T : Nat → Prop) (W0 : World) (hT : ∀ k, T k → k < W0.heap.size) (rules_ : (List RuleD)) (i_1 : Int) (a_2 : AskD) (first_ : Bool) (v1 : Value) (hv1 : SlR R_RuleD T W0 v1 rules_) (y : Bool) (hM : toy_right rules_ i_1 a_2 first_ = some y) : Rets Tryd.prog No 64 [v1, .int .i64 i_1, .agg #[.bool a_2.Cell, .bool a_2.Pick, .int .i64 a_2.N, .int .i64 a_2.Else], .bool first_] W0 (fun v w' => v = .bool y) := by
  refine enter (c := _) Tryd.func64 rfl T 44 Tryd.ntmps64 hT rfl fun a hS => ?_
  replace hS := hS.fact (SlF R_RuleD v1 rules_) (SlR.dn hv1)
  unfold toy_right at hM
  refine wp_seq_k fun K8 hK8 => ?_
  refine r_list ?_
  refine wl rfl (k_box hS rfl (cs := [.bool a_2.Cell, .bool a_2.Pick, .int .i64 a_2.N, .int .i64 a_2.Else]) rfl rfl fun b54 hnb56 a w hk hS => ?_)
  refine wl rfl (ky (v := .bool false) hS (y_assign hS rfl) rfl rfl fun a hS => ?_)
  refine wpList_nil ?_
  try simp only [Exit.then, Exit.inBlock, ↓reduceIte, Nat.reduceEqDiff]
  refine hK8 _ _ ?_
  refine wp_seq_k fun K9 hK9 => ?_
  refine seq_j (J := fun a w => ∃ (g85 : Bool), St W0 No T 44 [(0, v1), (1, .int .i64 i_1), (6, .pointer (some ⟨b54, 0, none⟩)), (30, .bool g85)] [.box b54 [.bool a_2.Cell, .bool a_2.Pick, .int .i64 a_2.N, .int .i64 a_2.Else] 55] [SlF R_RuleD v1 rules_] a w ∧ toy_right_j1 rules_ i_1 a_2 g85 = some y) ?_ ?_
  · skip
    refine r_list ?_
    refine wl rfl (ky (v := .pointer (some ⟨b54, 0 + 1, none⟩)) hS (y_fld hS rfl fl55_1) rfl rfl fun a hS => ?_)
    refine wl rfl (ky (v := .bool a_2.Pick) hS (y_load hS rfl ty4 0 rfl id (us := [.bool a_2.Pick]) rfl rfl (fun _ => rfl)) rfl rfl fun a hS => ?_)
    refine wl rfl (ky (v := .bool a_2.Pick) hS (y_move hS rfl) rfl rfl fun a hS => ?_)
    rcases bool2 (a_2.Pick) with hb90 | hb90
    · replace hM := ct hb90 hM
      refine wg hS rfl rfl rfl hb90 (ky (v := v1) hS (y_move hS rfl) rfl rfl fun a hS => ?_)
      refine wg hS rfl rfl rfl hb90 (ky (v := .int .i64 i_1) hS (y_move hS rfl) rfl rfl fun a hS => ?_)
      obtain ⟨e91, he91, hM⟩ := bd hM
      refine wg hS rfl rfl rfl hb90 (k_index (R := R_RuleD) hS sl44 ty48 rfl rfl 0 rfl he91 rfl fun b93 o94 cs96 hr95 a hS => ?_)
      obtain ⟨v92, rfl, hv92⟩ := hr95
      replace hS := hS.fact (SlF R_AskD v92 e91.Asks) hv92
      refine wg hS rfl rfl rfl hb90 (ky (v := .pointer (some ⟨b93, o94 + 0, none⟩)) hS (y_fld hS rfl fl48_0) rfl rfl fun a hS => ?_)
      refine wg hS rfl rfl rfl hb90 (ky (v := .bool e91.Ring) hS (y_loadc (k := 0) hS ty4 1 rfl rfl (fun _ h => h.elim) (us := [.bool e91.Ring]) rfl rfl (fun _ => rfl)) rfl rfl fun a hS => ?_)
      refine wg hS rfl rfl rfl hb90 (ky (v := .bool e91.Ring) hS (y_move hS rfl) rfl rfl fun a hS => ?_)
      rcases bool2 (e91.Ring) with hb98 | hb98
      · replace hM := ct hb98 hM
        refine wn hS rfl rfl rfl hb98 rfl rfl fun a hS => ?_
        refine wg hS rfl rfl rfl hb90 (ky (v := .bool true) hS (y_pickt hS rfl hb98 rfl) rfl rfl fun a hS => ?_)
        refine wl rfl (ky (v := .bool true) hS (y_pickt hS rfl hb90 rfl) rfl rfl fun a hS => ?_)
        refine wl rfl (ky (v := .bool true) hS (y_move hS rfl) rfl rfl fun a hS => ?_)
        refine wn hS rfl rfl rfl rfl rfl rfl fun a hS => ?_
        refine wn hS rfl rfl rfl rfl rfl rfl fun a hS => ?_
        refine wn hS rfl rfl rfl rfl rfl rfl fun a hS => ?_
        refine wn hS rfl rfl rfl rfl rfl rfl fun a hS => ?_
        refine wn hS rfl rfl rfl rfl rfl rfl fun a hS => ?_
        refine wn hS rfl rfl rfl rfl rfl rfl fun a hS => ?_
        refine wn hS rfl rfl rfl rfl rfl rfl fun a hS => ?_
        refine wn hS rfl rfl rfl rfl rfl rfl fun a hS => ?_
        refine wl rfl (ky (v := .bool true) hS (y_pickt hS rfl rfl rfl) rfl rfl fun a hS => ?_)
        refine wpList_nil ?_
        try simp only [Exit.then, Exit.inBlock, ↓reduceIte, Nat.reduceEqDiff]
        exact ⟨true, (hS.meet [0] (by decide) ⟨rfl, rfl, rfl, rfl, trivial⟩ ⟨rfl, trivial⟩ ⟨⟨2, rfl⟩, trivial⟩), hM⟩
      · replace hM := cf hb98 hM
        refine wg hS rfl rfl rfl hb98 (ky (v := .bool first_) hS (y_move hS rfl) rfl rfl fun a hS => ?_)
        refine wg hS rfl rfl rfl hb90 (ky (v := .bool first_) hS (y_pickf hS rfl hb98 rfl) rfl rfl fun a hS => ?_)
        refine wl rfl (ky (v := .bool first_) hS (y_pickt hS rfl hb90 rfl) rfl rfl fun a hS => ?_)
        refine wl rfl (ky (v := .bool first_) hS (y_move hS rfl) rfl rfl fun a hS => ?_)
        rcases bool2 (first_) with hb99 | hb99
        · replace hM := ct hb99 hM
          refine wn hS rfl rfl rfl hb99 rfl rfl fun a hS => ?_
          refine wn hS rfl rfl rfl hb99 rfl rfl fun a hS => ?_
          refine wn hS rfl rfl rfl hb99 rfl rfl fun a hS => ?_
          refine wn hS rfl rfl rfl hb99 rfl rfl fun a hS => ?_
          refine wn hS rfl rfl rfl hb99 rfl rfl fun a hS => ?_
          refine wn hS rfl rfl rfl hb99 rfl rfl fun a hS => ?_
          refine wn hS rfl rfl rfl hb99 rfl rfl fun a hS => ?_
          refine wn hS rfl rfl rfl hb99 rfl rfl fun a hS => ?_
          refine wl rfl (ky (v := .bool true) hS (y_pickt hS rfl hb99 rfl) rfl rfl fun a hS => ?_)
          refine wpList_nil ?_
          try simp only [Exit.then, Exit.inBlock, ↓reduceIte, Nat.reduceEqDiff]
          exact ⟨true, (hS.meet [0] (by decide) ⟨rfl, rfl, rfl, rfl, trivial⟩ ⟨rfl, trivial⟩ ⟨⟨2, rfl⟩, trivial⟩), hM⟩
        · replace hM := cf hb99 hM
          refine wg hS rfl rfl rfl hb99 (ky (v := v1) hS (y_move hS rfl) rfl rfl fun a hS => ?_)
          refine wg hS rfl rfl rfl hb99 (ky (v := .int .i64 i_1) hS (y_move hS rfl) rfl rfl fun a hS => ?_)
          refine wg hS rfl rfl rfl hb99 (ky (v := .pointer (some ⟨b54, 0 + 0, none⟩)) hS (y_fld hS rfl fl55_0) rfl rfl fun a hS => ?_)
          refine wg hS rfl rfl rfl hb99 (ky (v := .bool a_2.Cell) hS (y_load hS rfl ty4 0 rfl id (us := [.bool a_2.Cell]) rfl rfl (fun _ => rfl)) rfl rfl fun a hS => ?_)
          refine wg hS rfl rfl rfl hb99 (ky (v := .pointer (some ⟨b54, 0 + 2, none⟩)) hS (y_fld hS rfl fl55_2) rfl rfl fun a hS => ?_)
          refine wg hS rfl rfl rfl hb99 (ky (v := .int .i64 a_2.N) hS (y_load hS rfl ty3 0 rfl id (us := [.int .i64 a_2.N]) rfl rfl (fun _ => rfl)) rfl rfl fun a hS => ?_)
          obtain ⟨u100, hu100, hM⟩ := bd hM
          refine wg hS rfl rfl rfl hb99 (k_call hS ci91 rfl rfl (toy_may_c _ _ hS.dlt rules_ i_1 a_2.Cell a_2.N _ (hS.get 2 rfl) _ hu100) fun _ w hR a hk hA => ?_)
          have he := Eq.symm hR
          subst he
          have hS := hA [] (fun r hr => by cases hr) List.Pairwise.nil
          refine wg hS rfl rfl rfl hb99 (ky (v := .bool (!(u100))) hS (y_not hS rfl) rfl rfl fun a hS => ?_)
          refine wl rfl (ky (v := .bool (!(u100))) hS (y_pickf hS rfl hb99 rfl) rfl rfl fun a hS => ?_)
          refine wpList_nil ?_
          try simp only [Exit.then, Exit.inBlock, ↓reduceIte, Nat.reduceEqDiff]
          exact ⟨(!(u100)), (hS.meet [0] (by decide) ⟨rfl, rfl, rfl, rfl, trivial⟩ ⟨rfl, trivial⟩ ⟨⟨2, rfl⟩, trivial⟩), hM⟩
    · replace hM := cf hb90 hM
      refine wn hS rfl rfl rfl hb90 rfl rfl fun a hS => ?_
      refine wn hS rfl rfl rfl hb90 rfl rfl fun a hS => ?_
      refine wn hS rfl rfl rfl hb90 rfl rfl fun a hS => ?_
      refine wn hS rfl rfl rfl hb90 rfl rfl fun a hS => ?_
      refine wn hS rfl rfl rfl hb90 rfl rfl fun a hS => ?_
      refine wn hS rfl rfl rfl hb90 rfl rfl fun a hS => ?_
      refine wnu hS rfl rfl rfl rfl rfl fun a hS => ?_
      refine wn hS rfl rfl rfl hb90 rfl rfl fun a hS => ?_
      refine wl rfl (ky (v := .bool false) hS (y_pickf hS rfl hb90 rfl) rfl rfl fun a hS => ?_)
      refine wl rfl (ky (v := .bool false) hS (y_move hS rfl) rfl rfl fun a hS => ?_)
      refine wg hS rfl rfl rfl rfl (ky (v := v1) hS (y_move hS rfl) rfl rfl fun a hS => ?_)
      refine wg hS rfl rfl rfl rfl (ky (v := .int .i64 i_1) hS (y_move hS rfl) rfl rfl fun a hS => ?_)
      refine wg hS rfl rfl rfl rfl (ky (v := .pointer (some ⟨b54, 0 + 0, none⟩)) hS (y_fld hS rfl fl55_0) rfl rfl fun a hS => ?_)
      refine wg hS rfl rfl rfl rfl (ky (v := .bool a_2.Cell) hS (y_load hS rfl ty4 0 rfl id (us := [.bool a_2.Cell]) rfl rfl (fun _ => rfl)) rfl rfl fun a hS => ?_)
      refine wg hS rfl rfl rfl rfl (ky (v := .pointer (some ⟨b54, 0 + 2, none⟩)) hS (y_fld hS rfl fl55_2) rfl rfl fun a hS => ?_)
      refine wg hS rfl rfl rfl rfl (ky (v := .int .i64 a_2.N) hS (y_load hS rfl ty3 0 rfl id (us := [.int .i64 a_2.N]) rfl rfl (fun _ => rfl)) rfl rfl fun a hS => ?_)
      obtain ⟨u102, hu102, hM⟩ := bd hM
      refine wg hS rfl rfl rfl rfl (k_call hS ci91 rfl rfl (toy_may_c _ _ hS.dlt rules_ i_1 a_2.Cell a_2.N _ (hS.get 0 rfl) _ hu102) fun _ w hR a hk hA => ?_)
      have he := Eq.symm hR
      subst he
      have hS := hA [] (fun r hr => by cases hr) List.Pairwise.nil
      refine wg hS rfl rfl rfl rfl (ky (v := .bool (!(u102))) hS (y_not hS rfl) rfl rfl fun a hS => ?_)
      refine wl rfl (ky (v := .bool (!(u102))) hS (y_pickf hS rfl rfl rfl) rfl rfl fun a hS => ?_)
      refine wpList_nil ?_
      try simp only [Exit.then, Exit.inBlock, ↓reduceIte, Nat.reduceEqDiff]
      exact ⟨(!(u102)), (hS.meet [0] (by decide) ⟨rfl, rfl, rfl, rfl, trivial⟩ ⟨rfl, trivial⟩ ⟨⟨0, rfl⟩, trivial⟩), hM⟩
  · rintro a w ⟨g85, hS, hM⟩
    unfold toy_right_j1 at hM
    rcases bool2 (g85) with hb86 | hb86
    · replace hM := ct hb86 hM
      refine c_t hS rfl hb86 ?_
      refine wp_seq_k fun K10 hK10 => ?_
      refine r_list ?_
      refine wl rfl (ky (v := .bool false) hS (y_assign hS rfl) rfl rfl fun a hS => ?_)
      refine wpList_nil ?_
      try simp only [Exit.then, Exit.inBlock, ↓reduceIte, Nat.reduceEqDiff]
      refine hK10 _ _ ?_
      refine wp_ret ?_
      injection hM with hM
      subst hM
      try simp only [Exit.then, Exit.inBlock, ↓reduceIte, Nat.reduceEqDiff]
      refine ret_ok hS Tryd.results64 (res_tmp hS rfl res_nil) ?_
      exact rfl
    · replace hM := cf hb86 hM
      refine c_f hS rfl hb86 ?_
      refine wp_skip ?_
      try simp only [Exit.then, Exit.inBlock, ↓reduceIte, Nat.reduceEqDiff]
      refine hK9 _ _ ?_
      refine wp_seq_k fun K11 hK11 => ?_
      refine wp_seq_k fun K12 hK12 => ?_
      refine r_list ?_
      refine wl rfl (ky (v := .pointer (some ⟨b54, 0 + 1, none⟩)) hS (y_fld hS rfl fl55_1) rfl rfl fun a hS => ?_)
      refine wl rfl (ky (v := .bool a_2.Pick) hS (y_load hS rfl ty4 0 rfl id (us := [.bool a_2.Pick]) rfl rfl (fun _ => rfl)) rfl rfl fun a hS => ?_)
      refine wl rfl (ky (v := .bool (!(a_2.Pick))) hS (y_not hS rfl) rfl rfl fun a hS => ?_)
      refine wpList_nil ?_
      try simp only [Exit.then, Exit.inBlock, ↓reduceIte, Nat.reduceEqDiff]
      refine hK12 _ _ ?_
      rcases bool2 (!(a_2.Pick)) with hb87 | hb87
      · replace hM := ct hb87 hM
        refine c_t hS rfl hb87 ?_
        refine wp_seq_k fun K13 hK13 => ?_
        refine r_list ?_
        refine wl rfl (ky (v := .pointer (some ⟨b54, 0 + 3, none⟩)) hS (y_fld hS rfl fl55_3) rfl rfl fun a hS => ?_)
        refine wl rfl (ky (v := .int .i64 a_2.Else) hS (y_load hS rfl ty3 0 rfl id (us := [.int .i64 a_2.Else]) rfl rfl (fun _ => rfl)) rfl rfl fun a hS => ?_)
        refine wl rfl (ky (v := .bool ((a_2.Else : Int) == 0)) hS (y_int hS rfl rfl rfl) rfl rfl fun a hS => ?_)
        refine wl rfl (ky (v := .bool ((a_2.Else : Int) == 0)) hS (y_assign hS rfl) rfl rfl fun a hS => ?_)
        refine wpList_nil ?_
        try simp only [Exit.then, Exit.inBlock, ↓reduceIte, Nat.reduceEqDiff]
        refine hK13 _ _ ?_
        refine wp_ret ?_
        injection hM with hM
        subst hM
        try simp only [Exit.then, Exit.inBlock, ↓reduceIte, Nat.reduceEqDiff]
        refine ret_ok hS Tryd.results64 (res_tmp hS rfl res_nil) ?_
        exact rfl
      · replace hM := cf hb87 hM
        refine c_f hS rfl hb87 ?_
        refine wp_skip ?_
        try simp only [Exit.then, Exit.inBlock, ↓reduceIte, Nat.reduceEqDiff]
        refine hK11 _ _ ?_
        refine wp_seq_k fun K14 hK14 => ?_
        refine r_list ?_
        refine wl rfl (ky (v := v1) hS (y_move hS rfl) rfl rfl fun a hS => ?_)
        refine wl rfl (ky (v := .int .i64 i_1) hS (y_move hS rfl) rfl rfl fun a hS => ?_)
        refine wl rfl (ky (v := .pointer (some ⟨b54, 0 + 0, none⟩)) hS (y_fld hS rfl fl55_0) rfl rfl fun a hS => ?_)
        refine wl rfl (ky (v := .bool a_2.Cell) hS (y_load hS rfl ty4 0 rfl id (us := [.bool a_2.Cell]) rfl rfl (fun _ => rfl)) rfl rfl fun a hS => ?_)
        refine wl rfl (ky (v := .pointer (some ⟨b54, 0 + 3, none⟩)) hS (y_fld hS rfl fl55_3) rfl rfl fun a hS => ?_)
        refine wl rfl (ky (v := .int .i64 a_2.Else) hS (y_load hS rfl ty3 0 rfl id (us := [.int .i64 a_2.Else]) rfl rfl (fun _ => rfl)) rfl rfl fun a hS => ?_)
        obtain ⟨u88, hu88, hM⟩ := bd hM
        refine wl rfl (k_call hS ci91 rfl rfl (toy_may_c _ _ hS.dlt rules_ i_1 a_2.Cell a_2.Else _ (hS.get 0 rfl) _ hu88) fun _ w hR a hk hA => ?_)
        have he := Eq.symm hR
        subst he
        have hS := hA [] (fun r hr => by cases hr) List.Pairwise.nil
        refine wl rfl (ky (v := .bool u88) hS (y_assign hS rfl) rfl rfl fun a hS => ?_)
        refine wpList_nil ?_
        try simp only [Exit.then, Exit.inBlock, ↓reduceIte, Nat.reduceEqDiff]
        refine hK14 _ _ ?_
        refine wp_ret ?_
        injection hM with hM
        subst hM
        try simp only [Exit.then, Exit.inBlock, ↓reduceIte, Nat.reduceEqDiff]
        refine ret_ok hS Tryd.results64 (res_tmp hS rfl res_nil) ?_
        exact rfl

noncomputable def toy_Valid_j1 : Option Bool := some (true)
noncomputable def toy_Valid_j2 (g657 : Int) : Option (Fl (Int) (Fl (Unit) Bool)) := some (.go (IntKind.i64.wrap (g657 + 1)))
noncomputable def toy_Valid_l3 (rules_ : (List RuleD)) (g657 : Int) (e820 : RuleD) (g857 : Int) : Option (Fl (Int) (Fl (Unit) Bool)) := cond (decide ((g857 : Int) < (e820.Asks.length : Int))) ((getI e820.Asks g857).bind fun e873 => (toy_right rules_ g657 e873 ((g857 : Int) == 0)).bind fun u882 => cond (!(u882)) (some (.out (.out false))) (some (.go (IntKind.i64.wrap (g857 + 1))))) (some (.out (.go ())))
noncomputable def toy_Valid_j4 (rules_ : (List RuleD)) (g657 : Int) (e820 : RuleD) (low831 : Int) (high832 : Int) (most833 : Int) : Option (Fl (Int) (Fl (Unit) Bool)) := cond (decide ((6 : Int) < (e820.Asks.length : Int))) (some (.out (.out false))) (cond (decide ((e820.Final : Int) < low831)) (some (.out (.out false))) (cond (decide ((high832 : Int) < e820.Final)) (some (.out (.out false))) (cond (decide ((e820.C : Int) < 0)) (some (.out (.out false))) (cond (decide ((most833 : Int) < e820.C)) (some (.out (.out false))) ((loop (fun s : Int => toy_Valid_l3 rules_ g657 e820 s) 0).bind fun r => Fl.el r (fun s => toy_Valid_j2 g657) (fun y => some (.out (.out y))))))))
noncomputable def toy_Valid_l5 (rules_ : (List RuleD)) (g657 : Int) : Option (Fl (Int) (Fl (Unit) Bool)) := cond (decide ((g657 : Int) < (rules_.length : Int))) ((getI rules_ g657).bind fun e820 => cond e820.Ring (toy_Valid_j4 rules_ g657 e820 5 5 65535) (toy_Valid_j4 rules_ g657 e820 1 4 999)) (some (.out (.go ())))
noncomputable def toy_Valid (rules_ : (List RuleD)) : Option Bool := cond (decide ((24 : Int) < (rules_.length : Int))) (some (false)) ((loop (fun s : Int => toy_Valid_l5 rules_ s) 0).bind fun r => Fl.el r (fun s => toy_Valid_j1) (fun y => some (y)))
set_option maxRecDepth 100000 in
set_option maxHeartbeats 4000000 in
theorem toy_Valid_c (T : Nat → Prop) (W0 : World) (hT : ∀ k, T k → k < W0.heap.size) (rules_ : (List RuleD)) (v1 : Value) (hv1 : SlR R_RuleD T W0 v1 rules_) (y : Bool) (hM : toy_Valid rules_ = some y) : Rets Tryd.prog No 30 [v1] W0 (fun v w' => v = .bool y) := by
  refine enter (c := _) Tryd.func30 rfl T 66 Tryd.ntmps30 hT rfl fun a hS => ?_
  replace hS := hS.fact (SlF R_RuleD v1 rules_) (SlR.dn hv1)
  unfold toy_Valid at hM
  refine wp_seq_k fun K152 hK152 => ?_
  refine r_list ?_
  refine wl rfl (ky (v := .bool false) hS (y_assign hS rfl) rfl rfl fun a hS => ?_)
  refine wpList_nil ?_
  try simp only [Exit.then, Exit.inBlock, ↓reduceIte, Nat.reduceEqDiff]
  refine hK152 _ _ ?_
  refine wp_seq_k fun K153 hK153 => ?_
  refine wp_seq_k fun K154 hK154 => ?_
  refine r_list ?_
  refine wl rfl (ky (v := v1) hS (y_move hS rfl) rfl rfl fun a hS => ?_)
  refine wl rfl (ky (v := .int .i64 (rules_.length : Int)) hS (y_len (R := R_RuleD) (xs := rules_) hS sl44 rfl 0 rfl) rfl rfl fun a hS => ?_)
  refine wl rfl (ky (v := .bool (decide ((24 : Int) < (rules_.length : Int)))) hS (y_int hS rfl rfl rfl) rfl rfl fun a hS => ?_)
  refine wpList_nil ?_
  try simp only [Exit.then, Exit.inBlock, ↓reduceIte, Nat.reduceEqDiff]
  refine hK154 _ _ ?_
  rcases bool2 (decide ((24 : Int) < (rules_.length : Int))) with hb331 | hb331
  · replace hM := ct hb331 hM
    refine c_t hS rfl hb331 ?_
    refine wp_seq_k fun K155 hK155 => ?_
    refine r_list ?_
    refine wl rfl (ky (v := .bool false) hS (y_assign hS rfl) rfl rfl fun a hS => ?_)
    refine wpList_nil ?_
    try simp only [Exit.then, Exit.inBlock, ↓reduceIte, Nat.reduceEqDiff]
    refine hK155 _ _ ?_
    refine wp_ret ?_
    injection hM with hM
    subst hM
    try simp only [Exit.then, Exit.inBlock, ↓reduceIte, Nat.reduceEqDiff]
    refine ret_ok hS Tryd.results30 (res_tmp hS rfl res_nil) ?_
    exact rfl
  · replace hM := cf hb331 hM
    refine c_f hS rfl hb331 ?_
    refine wp_skip ?_
    try simp only [Exit.then, Exit.inBlock, ↓reduceIte, Nat.reduceEqDiff]
    refine hK153 _ _ ?_
    refine seq_j (J := fun a w => St W0 No T 66 [] [] [] a w ∧ toy_Valid_j1 = some y) ?_ ?_
    · skip
      refine wp_seq_k fun K258 hK258 => ?_
      refine r_list ?_
      refine wl rfl (ky (v := v1) hS (y_move hS rfl) rfl rfl fun a hS => ?_)
      refine wl rfl (ky (v := .int .i64 (rules_.length : Int)) hS (y_len (R := R_RuleD) (xs := rules_) hS sl44 rfl 0 rfl) rfl rfl fun a hS => ?_)
      refine wl rfl (ky (v := .int .i64 0) hS (y_move hS rfl) rfl rfl fun a hS => ?_)
      refine wpList_nil ?_
      try simp only [Exit.then, Exit.inBlock, ↓reduceIte, Nat.reduceEqDiff]
      refine hK258 _ _ ?_
      refine wp_block ?_
      obtain ⟨r1, hl1, hMo1⟩ := bd hM
      refine wp_lp (fun s : Int => toy_Valid_l5 rules_ s) (fun s a w => ∃ (g657 : Int), g657 = s ∧ St W0 No T 66 [(0, v1), (13, v1), (14, .int .i64 (rules_.length : Int)), (15, .int .i64 g657)] [] [SlF R_RuleD v1 rules_] a w) hl1 ⟨0, rfl, (hS.meet [] (by decide) ⟨rfl, rfl, rfl, rfl, trivial⟩ trivial ⟨⟨0, rfl⟩, trivial⟩)⟩ ?_
      rintro s a w f1 ⟨g657, rfl, hS⟩ hM hf1
      have hM : toy_Valid_l5 rules_ g657 = some f1 := hM
      unfold toy_Valid_l5 at hM
      refine wp_seq_k fun K359 hK359 => ?_
      refine r_list ?_
      refine wl rfl (ky (v := .bool (decide ((g657 : Int) < (rules_.length : Int)))) hS (y_int hS rfl rfl rfl) rfl rfl fun a hS => ?_)
      refine wpList_nil ?_
      try simp only [Exit.then, Exit.inBlock, ↓reduceIte, Nat.reduceEqDiff]
      refine hK359 _ _ ?_
      refine wp_seq_k fun K360 hK360 => ?_
      rcases bool2 (decide ((g657 : Int) < (rules_.length : Int))) with hb766 | hb766
      · replace hM := ct hb766 hM
        refine c_t hS rfl hb766 ?_
        refine wp_skip ?_
        try simp only [Exit.then, Exit.inBlock, ↓reduceIte, Nat.reduceEqDiff]
        refine hK360 _ _ ?_
        refine seq_j (J := fun a w => St W0 No T 66 [(0, v1), (13, v1), (14, .int .i64 (rules_.length : Int)), (15, .int .i64 g657)] [] [SlF R_RuleD v1 rules_] a w ∧ toy_Valid_j2 g657 = some f1) ?_ ?_
        · skip
          refine wp_block ?_
          refine wp_seq_k fun K385 hK385 => ?_
          refine r_list ?_
          refine wl rfl (ky (v := .int .i64 g657) hS (y_move hS rfl) rfl rfl fun a hS => ?_)
          obtain ⟨e820, he820, hM⟩ := bd hM
          refine wl rfl (k_index (R := R_RuleD) hS sl44 ty48 rfl rfl 0 rfl he820 rfl fun b822 o823 cs825 hr824 a hS => ?_)
          obtain ⟨v821, rfl, hv821⟩ := hr824
          replace hS := hS.fact (SlF R_AskD v821 e820.Asks) hv821
          refine wl rfl (ky (v := .agg #[.bool e820.Ring, v821, .int .i64 e820.Final, .int .i64 e820.C]) hS (y_loadc (k := 0) hS ty48 1 rfl rfl (fun _ h => h.elim) (us := [.bool e820.Ring, v821, .int .i64 e820.Final, .int .i64 e820.C]) rfl rfl (fun h => by cases h)) rfl rfl fun a hS => ?_)
          refine wl rfl (k_alloc hS ze48 rfl fun b827 hnb829 a w hk hS => ?_)
          refine wl rfl (ky (v := .int .i64 g657) hS (y_assign hS rfl) rfl rfl fun a hS => ?_)
          refine wl rfl (k_store hS rfl rfl (us := [.bool e820.Ring, v821, .int .i64 e820.Final, .int .i64 e820.C]) rfl ty48 0 rfl rfl rfl (oc rfl (oc (SlR.one ((hS.get 0 rfl) : SlR R_AskD _ _ _ _)) (oc rfl (oc rfl on)))) fun w hk hS => ?_)
          refine wpList_nil ?_
          try simp only [Exit.then, Exit.inBlock, ↓reduceIte, Nat.reduceEqDiff]
          refine hK385 _ _ ?_
          refine wp_seq_k fun K386 hK386 => ?_
          refine r_list ?_
          refine wl rfl (ky (v := .int .i64 1) hS (y_assign hS rfl) rfl rfl fun a hS => ?_)
          refine wl rfl (ky (v := .int .i64 4) hS (y_assign hS rfl) rfl rfl fun a hS => ?_)
          refine wl rfl (ky (v := .int .i64 999) hS (y_assign hS rfl) rfl rfl fun a hS => ?_)
          refine wpList_nil ?_
          try simp only [Exit.then, Exit.inBlock, ↓reduceIte, Nat.reduceEqDiff]
          refine hK386 _ _ ?_
          refine seq_j (J := fun a w => ∃ (low831 : Int) (high832 : Int) (most833 : Int), St W0 No T 66 [(0, v1), (3, .int .i64 g657), (4, .pointer (some ⟨b827, 0, none⟩)), (5, .int .i64 low831), (6, .int .i64 high832), (7, .int .i64 most833), (13, v1), (14, .int .i64 (rules_.length : Int)), (15, .int .i64 g657)] [.box b827 [.bool e820.Ring, v821, .int .i64 e820.Final, .int .i64 e820.C] 48] [SlF R_RuleD v1 rules_, SlF R_AskD v821 e820.Asks] a w ∧ toy_Valid_j4 rules_ g657 e820 low831 high832 most833 = some f1) ?_ ?_
          · skip
            refine wp_seq_k fun K414 hK414 => ?_
            refine r_list ?_
            refine wl rfl (ky (v := .pointer (some ⟨b827, 0 + 0, none⟩)) hS (y_fld hS rfl fl48_0) rfl rfl fun a hS => ?_)
            refine wl rfl (ky (v := .bool e820.Ring) hS (y_load hS rfl ty4 0 rfl id (us := [.bool e820.Ring]) rfl rfl (fun _ => rfl)) rfl rfl fun a hS => ?_)
            refine wpList_nil ?_
            try simp only [Exit.then, Exit.inBlock, ↓reduceIte, Nat.reduceEqDiff]
            refine hK414 _ _ ?_
            rcases bool2 (e820.Ring) with hb885 | hb885
            · replace hM := ct hb885 hM
              refine c_t hS rfl hb885 ?_
              refine r_list ?_
              refine wl rfl (ky (v := .int .i64 5) hS (y_assign hS rfl) rfl rfl fun a hS => ?_)
              refine wl rfl (ky (v := .int .i64 5) hS (y_assign hS rfl) rfl rfl fun a hS => ?_)
              refine wl rfl (ky (v := .int .i64 65535) hS (y_assign hS rfl) rfl rfl fun a hS => ?_)
              refine wpList_nil ?_
              try simp only [Exit.then, Exit.inBlock, ↓reduceIte, Nat.reduceEqDiff]
              exact ⟨5, 5, 65535, (hS.meet [0] (by decide) ⟨rfl, rfl, rfl, rfl, rfl, rfl, rfl, rfl, rfl, trivial⟩ ⟨rfl, trivial⟩ ⟨⟨2, rfl⟩, ⟨0, rfl⟩, trivial⟩), hM⟩
            · replace hM := cf hb885 hM
              refine c_f hS rfl hb885 ?_
              refine wp_skip ?_
              try simp only [Exit.then, Exit.inBlock, ↓reduceIte, Nat.reduceEqDiff]
              exact ⟨1, 4, 999, (hS.meet [0] (by decide) ⟨rfl, rfl, rfl, rfl, rfl, rfl, rfl, rfl, rfl, trivial⟩ ⟨rfl, trivial⟩ ⟨⟨2, rfl⟩, ⟨0, rfl⟩, trivial⟩), hM⟩
          · rintro a w ⟨low831, high832, most833, hS, hM⟩
            unfold toy_Valid_j4 at hM
            refine wp_seq_k fun K388 hK388 => ?_
            refine wp_seq_k fun K389 hK389 => ?_
            refine r_list ?_
            refine wl rfl (ky (v := .pointer (some ⟨b827, 0 + 1, none⟩)) hS (y_fld hS rfl fl48_1) rfl rfl fun a hS => ?_)
            refine wl rfl (ky (v := v821) hS (y_load hS rfl ty46 0 rfl id (us := [v821]) rfl rfl (fun _ => rfl)) rfl rfl fun a hS => ?_)
            refine wl rfl (ky (v := .int .i64 (e820.Asks.length : Int)) hS (y_len (R := R_AskD) (xs := e820.Asks) hS sl46 rfl 1 rfl) rfl rfl fun a hS => ?_)
            refine wl rfl (ky (v := .bool (decide ((6 : Int) < (e820.Asks.length : Int)))) hS (y_int hS rfl rfl rfl) rfl rfl fun a hS => ?_)
            refine wl rfl (ky (v := .bool (decide ((6 : Int) < (e820.Asks.length : Int)))) hS (y_move hS rfl) rfl rfl fun a hS => ?_)
            rcases bool2 (decide ((6 : Int) < (e820.Asks.length : Int))) with hb838 | hb838
            · replace hM := ct hb838 hM
              refine wn hS rfl rfl rfl hb838 rfl rfl fun a hS => ?_
              refine wn hS rfl rfl rfl hb838 rfl rfl fun a hS => ?_
              refine wn hS rfl rfl rfl hb838 rfl rfl fun a hS => ?_
              refine wn hS rfl rfl rfl hb838 rfl rfl fun a hS => ?_
              refine wl rfl (ky (v := .bool true) hS (y_pickt hS rfl hb838 rfl) rfl rfl fun a hS => ?_)
              refine wl rfl (ky (v := .bool true) hS (y_move hS rfl) rfl rfl fun a hS => ?_)
              refine wn hS rfl rfl rfl rfl rfl rfl fun a hS => ?_
              refine wn hS rfl rfl rfl rfl rfl rfl fun a hS => ?_
              refine wn hS rfl rfl rfl rfl rfl rfl fun a hS => ?_
              refine wn hS rfl rfl rfl rfl rfl rfl fun a hS => ?_
              refine wl rfl (ky (v := .bool true) hS (y_pickt hS rfl rfl rfl) rfl rfl fun a hS => ?_)
              refine wl rfl (ky (v := .bool true) hS (y_move hS rfl) rfl rfl fun a hS => ?_)
              refine wn hS rfl rfl rfl rfl rfl rfl fun a hS => ?_
              refine wn hS rfl rfl rfl rfl rfl rfl fun a hS => ?_
              refine wn hS rfl rfl rfl rfl rfl rfl fun a hS => ?_
              refine wl rfl (ky (v := .bool true) hS (y_pickt hS rfl rfl rfl) rfl rfl fun a hS => ?_)
              refine wl rfl (ky (v := .bool true) hS (y_move hS rfl) rfl rfl fun a hS => ?_)
              refine wn hS rfl rfl rfl rfl rfl rfl fun a hS => ?_
              refine wn hS rfl rfl rfl rfl rfl rfl fun a hS => ?_
              refine wn hS rfl rfl rfl rfl rfl rfl fun a hS => ?_
              refine wn hS rfl rfl rfl rfl rfl rfl fun a hS => ?_
              refine wl rfl (ky (v := .bool true) hS (y_pickt hS rfl rfl rfl) rfl rfl fun a hS => ?_)
              refine wpList_nil ?_
              try simp only [Exit.then, Exit.inBlock, ↓reduceIte, Nat.reduceEqDiff]
              refine hK389 _ _ ?_
              refine c_t hS rfl rfl ?_
              refine wp_seq_k fun K390 hK390 => ?_
              refine r_list ?_
              refine wl rfl (ky (v := .bool false) hS (y_assign hS rfl) rfl rfl fun a hS => ?_)
              refine wpList_nil ?_
              try simp only [Exit.then, Exit.inBlock, ↓reduceIte, Nat.reduceEqDiff]
              refine hK390 _ _ ?_
              refine wp_ret ?_
              injection hM with hM
              subst hM
              have hr := hf1 _ rfl
              subst hr
              replace hMo1 := el_out hMo1
              have hM := hMo1
              injection hM with hM
              subst hM
              try simp only [Exit.then, Exit.inBlock, ↓reduceIte, Nat.reduceEqDiff]
              refine ret_ok hS Tryd.results30 (res_tmp hS rfl res_nil) ?_
              exact rfl
            · replace hM := cf hb838 hM
              refine wg hS rfl rfl rfl hb838 (ky (v := .pointer (some ⟨b827, 0 + 2, none⟩)) hS (y_fld hS rfl fl48_2) rfl rfl fun a hS => ?_)
              refine wg hS rfl rfl rfl hb838 (ky (v := .int .i64 e820.Final) hS (y_load hS rfl ty3 0 rfl id (us := [.int .i64 e820.Final]) rfl rfl (fun _ => rfl)) rfl rfl fun a hS => ?_)
              refine wg hS rfl rfl rfl hb838 (ky (v := .int .i64 low831) hS (y_move hS rfl) rfl rfl fun a hS => ?_)
              refine wg hS rfl rfl rfl hb838 (ky (v := .bool (decide ((e820.Final : Int) < low831))) hS (y_int hS rfl rfl rfl) rfl rfl fun a hS => ?_)
              refine wl rfl (ky (v := .bool (decide ((e820.Final : Int) < low831))) hS (y_pickf hS rfl hb838 rfl) rfl rfl fun a hS => ?_)
              refine wl rfl (ky (v := .bool (decide ((e820.Final : Int) < low831))) hS (y_move hS rfl) rfl rfl fun a hS => ?_)
              rcases bool2 (decide ((e820.Final : Int) < low831)) with hb839 | hb839
              · replace hM := ct hb839 hM
                refine wn hS rfl rfl rfl hb839 rfl rfl fun a hS => ?_
                refine wn hS rfl rfl rfl hb839 rfl rfl fun a hS => ?_
                refine wn hS rfl rfl rfl hb839 rfl rfl fun a hS => ?_
                refine wn hS rfl rfl rfl hb839 rfl rfl fun a hS => ?_
                refine wl rfl (ky (v := .bool true) hS (y_pickt hS rfl hb839 rfl) rfl rfl fun a hS => ?_)
                refine wl rfl (ky (v := .bool true) hS (y_move hS rfl) rfl rfl fun a hS => ?_)
                refine wn hS rfl rfl rfl rfl rfl rfl fun a hS => ?_
                refine wn hS rfl rfl rfl rfl rfl rfl fun a hS => ?_
                refine wn hS rfl rfl rfl rfl rfl rfl fun a hS => ?_
                refine wl rfl (ky (v := .bool true) hS (y_pickt hS rfl rfl rfl) rfl rfl fun a hS => ?_)
                refine wl rfl (ky (v := .bool true) hS (y_move hS rfl) rfl rfl fun a hS => ?_)
                refine wn hS rfl rfl rfl rfl rfl rfl fun a hS => ?_
                refine wn hS rfl rfl rfl rfl rfl rfl fun a hS => ?_
                refine wn hS rfl rfl rfl rfl rfl rfl fun a hS => ?_
                refine wn hS rfl rfl rfl rfl rfl rfl fun a hS => ?_
                refine wl rfl (ky (v := .bool true) hS (y_pickt hS rfl rfl rfl) rfl rfl fun a hS => ?_)
                refine wpList_nil ?_
                try simp only [Exit.then, Exit.inBlock, ↓reduceIte, Nat.reduceEqDiff]
                refine hK389 _ _ ?_
                refine c_t hS rfl rfl ?_
                refine wp_seq_k fun K391 hK391 => ?_
                refine r_list ?_
                refine wl rfl (ky (v := .bool false) hS (y_assign hS rfl) rfl rfl fun a hS => ?_)
                refine wpList_nil ?_
                try simp only [Exit.then, Exit.inBlock, ↓reduceIte, Nat.reduceEqDiff]
                refine hK391 _ _ ?_
                refine wp_ret ?_
                injection hM with hM
                subst hM
                have hr := hf1 _ rfl
                subst hr
                replace hMo1 := el_out hMo1
                have hM := hMo1
                injection hM with hM
                subst hM
                try simp only [Exit.then, Exit.inBlock, ↓reduceIte, Nat.reduceEqDiff]
                refine ret_ok hS Tryd.results30 (res_tmp hS rfl res_nil) ?_
                exact rfl
              · replace hM := cf hb839 hM
                refine wg hS rfl rfl rfl hb839 (ky (v := .pointer (some ⟨b827, 0 + 2, none⟩)) hS (y_fld hS rfl fl48_2) rfl rfl fun a hS => ?_)
                refine wg hS rfl rfl rfl hb839 (ky (v := .int .i64 e820.Final) hS (y_load hS rfl ty3 0 rfl id (us := [.int .i64 e820.Final]) rfl rfl (fun _ => rfl)) rfl rfl fun a hS => ?_)
                refine wg hS rfl rfl rfl hb839 (ky (v := .int .i64 high832) hS (y_move hS rfl) rfl rfl fun a hS => ?_)
                refine wg hS rfl rfl rfl hb839 (ky (v := .bool (decide ((high832 : Int) < e820.Final))) hS (y_int hS rfl rfl rfl) rfl rfl fun a hS => ?_)
                refine wl rfl (ky (v := .bool (decide ((high832 : Int) < e820.Final))) hS (y_pickf hS rfl hb839 rfl) rfl rfl fun a hS => ?_)
                refine wl rfl (ky (v := .bool (decide ((high832 : Int) < e820.Final))) hS (y_move hS rfl) rfl rfl fun a hS => ?_)
                rcases bool2 (decide ((high832 : Int) < e820.Final)) with hb840 | hb840
                · replace hM := ct hb840 hM
                  refine wn hS rfl rfl rfl hb840 rfl rfl fun a hS => ?_
                  refine wn hS rfl rfl rfl hb840 rfl rfl fun a hS => ?_
                  refine wn hS rfl rfl rfl hb840 rfl rfl fun a hS => ?_
                  refine wl rfl (ky (v := .bool true) hS (y_pickt hS rfl hb840 rfl) rfl rfl fun a hS => ?_)
                  refine wl rfl (ky (v := .bool true) hS (y_move hS rfl) rfl rfl fun a hS => ?_)
                  refine wn hS rfl rfl rfl rfl rfl rfl fun a hS => ?_
                  refine wn hS rfl rfl rfl rfl rfl rfl fun a hS => ?_
                  refine wn hS rfl rfl rfl rfl rfl rfl fun a hS => ?_
                  refine wn hS rfl rfl rfl rfl rfl rfl fun a hS => ?_
                  refine wl rfl (ky (v := .bool true) hS (y_pickt hS rfl rfl rfl) rfl rfl fun a hS => ?_)
                  refine wpList_nil ?_
                  try simp only [Exit.then, Exit.inBlock, ↓reduceIte, Nat.reduceEqDiff]
                  refine hK389 _ _ ?_
                  refine c_t hS rfl rfl ?_
                  refine wp_seq_k fun K392 hK392 => ?_
                  refine r_list ?_
                  refine wl rfl (ky (v := .bool false) hS (y_assign hS rfl) rfl rfl fun a hS => ?_)
                  refine wpList_nil ?_
                  try simp only [Exit.then, Exit.inBlock, ↓reduceIte, Nat.reduceEqDiff]
                  refine hK392 _ _ ?_
                  refine wp_ret ?_
                  injection hM with hM
                  subst hM
                  have hr := hf1 _ rfl
                  subst hr
                  replace hMo1 := el_out hMo1
                  have hM := hMo1
                  injection hM with hM
                  subst hM
                  try simp only [Exit.then, Exit.inBlock, ↓reduceIte, Nat.reduceEqDiff]
                  refine ret_ok hS Tryd.results30 (res_tmp hS rfl res_nil) ?_
                  exact rfl
                · replace hM := cf hb840 hM
                  refine wg hS rfl rfl rfl hb840 (ky (v := .pointer (some ⟨b827, 0 + 3, none⟩)) hS (y_fld hS rfl fl48_3) rfl rfl fun a hS => ?_)
                  refine wg hS rfl rfl rfl hb840 (ky (v := .int .i64 e820.C) hS (y_load hS rfl ty3 0 rfl id (us := [.int .i64 e820.C]) rfl rfl (fun _ => rfl)) rfl rfl fun a hS => ?_)
                  refine wg hS rfl rfl rfl hb840 (ky (v := .bool (decide ((e820.C : Int) < 0))) hS (y_int hS rfl rfl rfl) rfl rfl fun a hS => ?_)
                  refine wl rfl (ky (v := .bool (decide ((e820.C : Int) < 0))) hS (y_pickf hS rfl hb840 rfl) rfl rfl fun a hS => ?_)
                  refine wl rfl (ky (v := .bool (decide ((e820.C : Int) < 0))) hS (y_move hS rfl) rfl rfl fun a hS => ?_)
                  rcases bool2 (decide ((e820.C : Int) < 0)) with hb841 | hb841
                  · replace hM := ct hb841 hM
                    refine wn hS rfl rfl rfl hb841 rfl rfl fun a hS => ?_
                    refine wn hS rfl rfl rfl hb841 rfl rfl fun a hS => ?_
                    refine wn hS rfl rfl rfl hb841 rfl rfl fun a hS => ?_
                    refine wn hS rfl rfl rfl hb841 rfl rfl fun a hS => ?_
                    refine wl rfl (ky (v := .bool true) hS (y_pickt hS rfl hb841 rfl) rfl rfl fun a hS => ?_)
                    refine wpList_nil ?_
                    try simp only [Exit.then, Exit.inBlock, ↓reduceIte, Nat.reduceEqDiff]
                    refine hK389 _ _ ?_
                    refine c_t hS rfl rfl ?_
                    refine wp_seq_k fun K393 hK393 => ?_
                    refine r_list ?_
                    refine wl rfl (ky (v := .bool false) hS (y_assign hS rfl) rfl rfl fun a hS => ?_)
                    refine wpList_nil ?_
                    try simp only [Exit.then, Exit.inBlock, ↓reduceIte, Nat.reduceEqDiff]
                    refine hK393 _ _ ?_
                    refine wp_ret ?_
                    injection hM with hM
                    subst hM
                    have hr := hf1 _ rfl
                    subst hr
                    replace hMo1 := el_out hMo1
                    have hM := hMo1
                    injection hM with hM
                    subst hM
                    try simp only [Exit.then, Exit.inBlock, ↓reduceIte, Nat.reduceEqDiff]
                    refine ret_ok hS Tryd.results30 (res_tmp hS rfl res_nil) ?_
                    exact rfl
                  · replace hM := cf hb841 hM
                    refine wg hS rfl rfl rfl hb841 (ky (v := .pointer (some ⟨b827, 0 + 3, none⟩)) hS (y_fld hS rfl fl48_3) rfl rfl fun a hS => ?_)
                    refine wg hS rfl rfl rfl hb841 (ky (v := .int .i64 e820.C) hS (y_load hS rfl ty3 0 rfl id (us := [.int .i64 e820.C]) rfl rfl (fun _ => rfl)) rfl rfl fun a hS => ?_)
                    refine wg hS rfl rfl rfl hb841 (ky (v := .int .i64 most833) hS (y_move hS rfl) rfl rfl fun a hS => ?_)
                    refine wg hS rfl rfl rfl hb841 (ky (v := .bool (decide ((most833 : Int) < e820.C))) hS (y_int hS rfl rfl rfl) rfl rfl fun a hS => ?_)
                    refine wl rfl (ky (v := .bool (decide ((most833 : Int) < e820.C))) hS (y_pickf hS rfl hb841 rfl) rfl rfl fun a hS => ?_)
                    refine wpList_nil ?_
                    try simp only [Exit.then, Exit.inBlock, ↓reduceIte, Nat.reduceEqDiff]
                    refine hK389 _ _ ?_
                    rcases bool2 (decide ((most833 : Int) < e820.C)) with hb842 | hb842
                    · replace hM := ct hb842 hM
                      refine c_t hS rfl hb842 ?_
                      refine wp_seq_k fun K394 hK394 => ?_
                      refine r_list ?_
                      refine wl rfl (ky (v := .bool false) hS (y_assign hS rfl) rfl rfl fun a hS => ?_)
                      refine wpList_nil ?_
                      try simp only [Exit.then, Exit.inBlock, ↓reduceIte, Nat.reduceEqDiff]
                      refine hK394 _ _ ?_
                      refine wp_ret ?_
                      injection hM with hM
                      subst hM
                      have hr := hf1 _ rfl
                      subst hr
                      replace hMo1 := el_out hMo1
                      have hM := hMo1
                      injection hM with hM
                      subst hM
                      try simp only [Exit.then, Exit.inBlock, ↓reduceIte, Nat.reduceEqDiff]
                      refine ret_ok hS Tryd.results30 (res_tmp hS rfl res_nil) ?_
                      exact rfl
                    · replace hM := cf hb842 hM
                      refine c_f hS rfl hb842 ?_
                      refine wp_skip ?_
                      try simp only [Exit.then, Exit.inBlock, ↓reduceIte, Nat.reduceEqDiff]
                      refine hK388 _ _ ?_
                      refine wp_seq_k fun K395 hK395 => ?_
                      refine r_list ?_
                      refine wl rfl (ky (v := .pointer (some ⟨b827, 0 + 1, none⟩)) hS (y_fld hS rfl fl48_1) rfl rfl fun a hS => ?_)
                      refine wl rfl (ky (v := v821) hS (y_load hS rfl ty46 0 rfl id (us := [v821]) rfl rfl (fun _ => rfl)) rfl rfl fun a hS => ?_)
                      refine wl rfl (ky (v := .int .i64 (e820.Asks.length : Int)) hS (y_len (R := R_AskD) (xs := e820.Asks) hS sl46 rfl 1 rfl) rfl rfl fun a hS => ?_)
                      refine wl rfl (ky (v := .int .i64 0) hS (y_move hS rfl) rfl rfl fun a hS => ?_)
                      refine wpList_nil ?_
                      try simp only [Exit.then, Exit.inBlock, ↓reduceIte, Nat.reduceEqDiff]
                      refine hK395 _ _ ?_
                      refine wp_block ?_
                      obtain ⟨r2, hl2, hMo2⟩ := bd hM
                      refine wp_lp (fun s : Int => toy_Valid_l3 rules_ g657 e820 s) (fun s a w => ∃ (g857 : Int), g857 = s ∧ St W0 No T 66 [(0, v1), (3, .int .i64 g657), (13, v1), (14, .int .i64 (rules_.length : Int)), (15, .int .i64 g657), (50, v821), (51, .int .i64 (e820.Asks.length : Int)), (52, .int .i64 g857)] [] [SlF R_RuleD v1 rules_, SlF R_AskD v821 e820.Asks] a w) hl2 ⟨0, rfl, (hS.meet [] (by decide) ⟨rfl, rfl, rfl, rfl, rfl, rfl, rfl, rfl, trivial⟩ trivial ⟨⟨0, rfl⟩, ⟨1, rfl⟩, trivial⟩)⟩ ?_
                      rintro s a w f2 ⟨g857, rfl, hS⟩ hM hf2
                      have hM : toy_Valid_l3 rules_ g657 e820 g857 = some f2 := hM
                      unfold toy_Valid_l3 at hM
                      refine wp_seq_k fun K408 hK408 => ?_
                      refine r_list ?_
                      refine wl rfl (ky (v := .bool (decide ((g857 : Int) < (e820.Asks.length : Int)))) hS (y_int hS rfl rfl rfl) rfl rfl fun a hS => ?_)
                      refine wpList_nil ?_
                      try simp only [Exit.then, Exit.inBlock, ↓reduceIte, Nat.reduceEqDiff]
                      refine hK408 _ _ ?_
                      refine wp_seq_k fun K409 hK409 => ?_
                      rcases bool2 (decide ((g857 : Int) < (e820.Asks.length : Int))) with hb872 | hb872
                      · replace hM := ct hb872 hM
                        refine c_t hS rfl hb872 ?_
                        refine wp_skip ?_
                        try simp only [Exit.then, Exit.inBlock, ↓reduceIte, Nat.reduceEqDiff]
                        refine hK409 _ _ ?_
                        refine wp_seq_k fun K410 hK410 => ?_
                        refine wp_block ?_
                        refine wp_seq_k fun K411 hK411 => ?_
                        refine r_list ?_
                        refine wl rfl (ky (v := .int .i64 g857) hS (y_move hS rfl) rfl rfl fun a hS => ?_)
                        obtain ⟨e873, he873, hM⟩ := bd hM
                        refine wl rfl (k_index (R := R_AskD) hS sl46 ty55 rfl rfl 1 rfl he873 rfl fun b874 o875 cs877 hr876 a hS => ?_)
                        obtain rfl := hr876
                        refine wl rfl (ky (v := .agg #[.bool e873.Cell, .bool e873.Pick, .int .i64 e873.N, .int .i64 e873.Else]) hS (y_loadc (k := 0) hS ty55 0 rfl rfl (fun _ h => h.elim) (us := [.bool e873.Cell, .bool e873.Pick, .int .i64 e873.N, .int .i64 e873.Else]) rfl rfl (fun h => by cases h)) rfl rfl fun a hS => ?_)
                        refine wl rfl (k_alloc hS ze55 rfl fun b879 hnb881 a w hk hS => ?_)
                        refine wl rfl (ky (v := .int .i64 g857) hS (y_assign hS rfl) rfl rfl fun a hS => ?_)
                        refine wl rfl (k_store hS rfl rfl (us := [.bool e873.Cell, .bool e873.Pick, .int .i64 e873.N, .int .i64 e873.Else]) rfl ty55 0 rfl rfl rfl (oc rfl (oc rfl (oc rfl (oc rfl on)))) fun w hk hS => ?_)
                        refine wpList_nil ?_
                        try simp only [Exit.then, Exit.inBlock, ↓reduceIte, Nat.reduceEqDiff]
                        refine hK411 _ _ ?_
                        refine wp_seq_k fun K412 hK412 => ?_
                        refine r_list ?_
                        refine wl rfl (ky (v := v1) hS (y_move hS rfl) rfl rfl fun a hS => ?_)
                        refine wl rfl (ky (v := .int .i64 g657) hS (y_move hS rfl) rfl rfl fun a hS => ?_)
                        refine wl rfl (ky (v := .agg #[.bool e873.Cell, .bool e873.Pick, .int .i64 e873.N, .int .i64 e873.Else]) hS (y_load hS rfl ty55 0 rfl id (us := [.bool e873.Cell, .bool e873.Pick, .int .i64 e873.N, .int .i64 e873.Else]) rfl rfl (fun h => by cases h)) rfl rfl fun a hS => ?_)
                        refine wl rfl (ky (v := .int .i64 g857) hS (y_move hS rfl) rfl rfl fun a hS => ?_)
                        refine wl rfl (ky (v := .bool ((g857 : Int) == 0)) hS (y_int hS rfl rfl rfl) rfl rfl fun a hS => ?_)
                        obtain ⟨u882, hu882, hM⟩ := bd hM
                        refine wl rfl (k_call hS ci64 rfl rfl (toy_right_c _ _ hS.dlt rules_ g657 e873 ((g857 : Int) == 0) _ (hS.get 1 rfl) _ hu882) fun _ w hR a hk hA => ?_)
                        have he := Eq.symm hR
                        subst he
                        have hS := hA [] (fun r hr => by cases hr) List.Pairwise.nil
                        refine wl rfl (ky (v := .bool (!(u882))) hS (y_not hS rfl) rfl rfl fun a hS => ?_)
                        refine wpList_nil ?_
                        try simp only [Exit.then, Exit.inBlock, ↓reduceIte, Nat.reduceEqDiff]
                        refine hK412 _ _ ?_
                        rcases bool2 (!(u882)) with hb884 | hb884
                        · replace hM := ct hb884 hM
                          refine c_t hS rfl hb884 ?_
                          refine wp_seq_k fun K413 hK413 => ?_
                          refine r_list ?_
                          refine wl rfl (ky (v := .bool false) hS (y_assign hS rfl) rfl rfl fun a hS => ?_)
                          refine wpList_nil ?_
                          try simp only [Exit.then, Exit.inBlock, ↓reduceIte, Nat.reduceEqDiff]
                          refine hK413 _ _ ?_
                          refine wp_ret ?_
                          injection hM with hM
                          subst hM
                          have hr := hf2 _ rfl
                          subst hr
                          replace hMo2 := el_out hMo2
                          have hM := hMo2
                          injection hM with hM
                          subst hM
                          have hr := hf1 _ rfl
                          subst hr
                          replace hMo1 := el_out hMo1
                          have hM := hMo1
                          injection hM with hM
                          subst hM
                          try simp only [Exit.then, Exit.inBlock, ↓reduceIte, Nat.reduceEqDiff]
                          refine ret_ok hS Tryd.results30 (res_tmp hS rfl res_nil) ?_
                          exact rfl
                        · replace hM := cf hb884 hM
                          refine c_f hS rfl hb884 ?_
                          refine wp_skip ?_
                          try simp only [Exit.then, Exit.inBlock, ↓reduceIte, Nat.reduceEqDiff]
                          refine hK410 _ _ ?_
                          refine r_list ?_
                          refine wl rfl (ky (v := .int .i64 (IntKind.i64.wrap (g857 + 1))) hS (y_int hS rfl rfl rfl) rfl rfl fun a hS => ?_)
                          refine wl rfl (ky (v := .int .i64 (IntKind.i64.wrap (g857 + 1))) hS (y_move hS rfl) rfl rfl fun a hS => ?_)
                          refine wpList_nil ?_
                          try simp only [Exit.then, Exit.inBlock, ↓reduceIte, Nat.reduceEqDiff]
                          exact ⟨IntKind.i64.wrap (g857 + 1), (Option.some.inj hM).symm, (IntKind.i64.wrap (g857 + 1)), rfl, (hS.meet [] (by decide) ⟨rfl, rfl, rfl, rfl, rfl, rfl, rfl, rfl, trivial⟩ trivial ⟨⟨1, rfl⟩, ⟨2, rfl⟩, trivial⟩)⟩
                      · replace hM := cf hb872 hM
                        refine c_f hS rfl hb872 ?_
                        refine wp_exit ?_
                        try simp only [Exit.then, Exit.inBlock, ↓reduceIte, Nat.reduceEqDiff]
                        injection hM with hM
                        subst hM
                        have hr := hf2 _ rfl
                        subst hr
                        replace hMo2 := el_go hMo2
                        have hM : toy_Valid_j2 g657 = some f1 := hMo2
                        exact ⟨(hS.meet [] (by decide) ⟨rfl, rfl, rfl, rfl, trivial⟩ trivial ⟨⟨0, rfl⟩, trivial⟩), hM⟩
        · rintro a w ⟨hS, hM⟩
          unfold toy_Valid_j2 at hM
          refine r_list ?_
          refine wl rfl (ky (v := .int .i64 (IntKind.i64.wrap (g657 + 1))) hS (y_int hS rfl rfl rfl) rfl rfl fun a hS => ?_)
          refine wl rfl (ky (v := .int .i64 (IntKind.i64.wrap (g657 + 1))) hS (y_move hS rfl) rfl rfl fun a hS => ?_)
          refine wpList_nil ?_
          try simp only [Exit.then, Exit.inBlock, ↓reduceIte, Nat.reduceEqDiff]
          exact ⟨IntKind.i64.wrap (g657 + 1), (Option.some.inj hM).symm, (IntKind.i64.wrap (g657 + 1)), rfl, (hS.meet [] (by decide) ⟨rfl, rfl, rfl, rfl, trivial⟩ trivial ⟨⟨0, rfl⟩, trivial⟩)⟩
      · replace hM := cf hb766 hM
        refine c_f hS rfl hb766 ?_
        refine wp_exit ?_
        try simp only [Exit.then, Exit.inBlock, ↓reduceIte, Nat.reduceEqDiff]
        injection hM with hM
        subst hM
        have hr := hf1 _ rfl
        subst hr
        replace hMo1 := el_go hMo1
        have hM : toy_Valid_j1 = some y := hMo1
        exact ⟨(hS.meet [] (by decide) trivial trivial trivial), hM⟩
    · rintro a w ⟨hS, hM⟩
      unfold toy_Valid_j1 at hM
      refine wp_seq_k fun K257 hK257 => ?_
      refine r_list ?_
      refine wl rfl (ky (v := .bool true) hS (y_assign hS rfl) rfl rfl fun a hS => ?_)
      refine wpList_nil ?_
      try simp only [Exit.then, Exit.inBlock, ↓reduceIte, Nat.reduceEqDiff]
      refine hK257 _ _ ?_
      refine wp_ret ?_
      injection hM with hM
      subst hM
      try simp only [Exit.then, Exit.inBlock, ↓reduceIte, Nat.reduceEqDiff]
      refine ret_ok hS Tryd.results30 (res_tmp hS rfl res_nil) ?_
      exact rfl

noncomputable def toy_final_j1 (kind70 : Int) (sum71 : Int) (most72 : Int) (bits73 : Int) : Option Int := cond ((kind70 : Int) == 1) (some (Int.tmod sum71 1000)) (cond ((kind70 : Int) == 2) (some (Int.tmod (IntKind.i64.wrap (Int.tdiv sum71 2)) 1000)) (cond ((kind70 : Int) == 3) (some (most72)) (cond ((kind70 : Int) == 4) (some (Int.tmod sum71 2)) (some (bits73)))))
noncomputable def toy_final_l2 (kind_ : Int) (l_1 : (List Int)) (sum89 : Int) (most90 : Int) (bits91 : Int) (g92 : Int) : Option (Fl (Int × Int × Int × Int) (Int × Int × Int × Int)) := cond (decide ((g92 : Int) < (l_1.length : Int))) ((getI l_1 g92).bind fun e105 => some (.go (IntKind.i64.wrap (sum89 + e105), max most90 e105, ibit .or .i64 bits91 e105, IntKind.i64.wrap (g92 + 1)))) (some (.out (kind_, sum89, most90, bits91)))
noncomputable def toy_final (kind_ : Int) (l_1 : (List Int)) : Option Int := (loop (fun s : Int × Int × Int × Int => toy_final_l2 kind_ l_1 s.1 s.2.1 s.2.2.1 s.2.2.2) (0, 0, 0, 0)).bind fun r => toy_final_j1 r.1 r.2.1 r.2.2.1 r.2.2.2
set_option maxRecDepth 100000 in
set_option maxHeartbeats 4000000 in
theorem toy_final_c (T : Nat → Prop) (W0 : World) (hT : ∀ k, T k → k < W0.heap.size) (kind_ : Int) (l_1 : (List Int)) (v1 : Value) (hv1 : SlR (Rep.int .i64) T W0 v1 l_1) (y : Int) (hM : toy_final kind_ l_1 = some y) : Rets Tryd.prog No 89 [.int .i64 kind_, v1] W0 (fun v w' => v = .int .i64 y) := by
  refine enter (c := _) Tryd.func89 rfl T 44 Tryd.ntmps89 hT rfl fun a hS => ?_
  replace hS := hS.fact (SlF (Rep.int .i64) v1 l_1) (SlR.dn hv1)
  unfold toy_final at hM
  refine wp_seq_k fun K24 hK24 => ?_
  refine r_list ?_
  refine wl rfl (ky (v := .int .i64 0) hS (y_assign hS rfl) rfl rfl fun a hS => ?_)
  refine wpList_nil ?_
  try simp only [Exit.then, Exit.inBlock, ↓reduceIte, Nat.reduceEqDiff]
  refine hK24 _ _ ?_
  refine wp_seq_k fun K25 hK25 => ?_
  refine r_list ?_
  refine wl rfl (ky (v := .int .i64 0) hS (y_assign hS rfl) rfl rfl fun a hS => ?_)
  refine wl rfl (ky (v := .int .i64 0) hS (y_assign hS rfl) rfl rfl fun a hS => ?_)
  refine wl rfl (ky (v := .int .i64 0) hS (y_assign hS rfl) rfl rfl fun a hS => ?_)
  refine wpList_nil ?_
  try simp only [Exit.then, Exit.inBlock, ↓reduceIte, Nat.reduceEqDiff]
  refine hK25 _ _ ?_
  refine seq_j (J := fun a w => ∃ (kind70 : Int) (sum71 : Int) (most72 : Int) (bits73 : Int), St W0 No T 44 [(0, .int .i64 kind70), (5, .int .i64 sum71), (6, .int .i64 most72), (7, .int .i64 bits73)] [] [] a w ∧ toy_final_j1 kind70 sum71 most72 bits73 = some y) ?_ ?_
  · skip
    refine wp_seq_k fun K42 hK42 => ?_
    refine r_list ?_
    refine wl rfl (ky (v := v1) hS (y_move hS rfl) rfl rfl fun a hS => ?_)
    refine wl rfl (ky (v := .int .i64 (l_1.length : Int)) hS (y_len (R := (Rep.int .i64)) (xs := l_1) hS sl39 rfl 0 rfl) rfl rfl fun a hS => ?_)
    refine wl rfl (ky (v := .int .i64 0) hS (y_move hS rfl) rfl rfl fun a hS => ?_)
    refine wpList_nil ?_
    try simp only [Exit.then, Exit.inBlock, ↓reduceIte, Nat.reduceEqDiff]
    refine hK42 _ _ ?_
    refine wp_block ?_
    obtain ⟨r1, hl1, hMo1⟩ := bd hM
    refine wp_lp (fun s : Int × Int × Int × Int => toy_final_l2 kind_ l_1 s.1 s.2.1 s.2.2.1 s.2.2.2) (fun s a w => ∃ (sum89 : Int) (most90 : Int) (bits91 : Int) (g92 : Int), (sum89, most90, bits91, g92) = s ∧ St W0 No T 44 [(0, .int .i64 kind_), (5, .int .i64 sum89), (6, .int .i64 most90), (7, .int .i64 bits91), (10, v1), (11, .int .i64 (l_1.length : Int)), (12, .int .i64 g92)] [] [SlF (Rep.int .i64) v1 l_1] a w) hl1 ⟨0, 0, 0, 0, rfl, (hS.meet [] (by decide) ⟨rfl, rfl, rfl, rfl, rfl, rfl, rfl, trivial⟩ trivial ⟨⟨0, rfl⟩, trivial⟩)⟩ ?_
    rintro s a w f1 ⟨sum89, most90, bits91, g92, rfl, hS⟩ hM hf1
    have hM : toy_final_l2 kind_ l_1 sum89 most90 bits91 g92 = some f1 := hM
    unfold toy_final_l2 at hM
    refine wp_seq_k fun K51 hK51 => ?_
    refine r_list ?_
    refine wl rfl (ky (v := .bool (decide ((g92 : Int) < (l_1.length : Int)))) hS (y_int hS rfl rfl rfl) rfl rfl fun a hS => ?_)
    refine wpList_nil ?_
    try simp only [Exit.then, Exit.inBlock, ↓reduceIte, Nat.reduceEqDiff]
    refine hK51 _ _ ?_
    refine wp_seq_k fun K52 hK52 => ?_
    rcases bool2 (decide ((g92 : Int) < (l_1.length : Int))) with hb104 | hb104
    · replace hM := ct hb104 hM
      refine c_t hS rfl hb104 ?_
      refine wp_skip ?_
      try simp only [Exit.then, Exit.inBlock, ↓reduceIte, Nat.reduceEqDiff]
      refine hK52 _ _ ?_
      refine wp_seq_k fun K53 hK53 => ?_
      refine wp_block ?_
      refine wp_seq_k fun K54 hK54 => ?_
      refine r_list ?_
      obtain ⟨e105, he105, hM⟩ := bd hM
      refine wl rfl (k_index (R := (Rep.int .i64)) hS sl39 ty3 rfl rfl 0 rfl he105 rfl fun b106 o107 cs109 hr108 a hS => ?_)
      obtain rfl := hr108
      refine wl rfl (ky (v := .int .i64 e105) hS (y_loadc (k := 0) hS ty3 0 rfl rfl (fun _ h => h.elim) (us := [.int .i64 e105]) rfl rfl (fun _ => rfl)) rfl rfl fun a hS => ?_)
      refine wl rfl (ky (v := .int .i64 e105) hS (y_assign hS rfl) rfl rfl fun a hS => ?_)
      refine wpList_nil ?_
      try simp only [Exit.then, Exit.inBlock, ↓reduceIte, Nat.reduceEqDiff]
      refine hK54 _ _ ?_
      refine r_list ?_
      refine wl rfl (ky (v := .int .i64 sum89) hS (y_move hS rfl) rfl rfl fun a hS => ?_)
      refine wl rfl (ky (v := .int .i64 e105) hS (y_move hS rfl) rfl rfl fun a hS => ?_)
      refine wl rfl (ky (v := .int .i64 (IntKind.i64.wrap (sum89 + e105))) hS (y_int hS rfl rfl rfl) rfl rfl fun a hS => ?_)
      refine wl rfl (ky (v := .int .i64 most90) hS (y_move hS rfl) rfl rfl fun a hS => ?_)
      refine wl rfl (ky (v := .int .i64 e105) hS (y_move hS rfl) rfl rfl fun a hS => ?_)
      refine wl rfl (ky (v := .int .i64 (max most90 e105)) hS (y_max hS rfl rfl) rfl rfl fun a hS => ?_)
      refine wl rfl (ky (v := .int .i64 bits91) hS (y_move hS rfl) rfl rfl fun a hS => ?_)
      refine wl rfl (ky (v := .int .i64 e105) hS (y_move hS rfl) rfl rfl fun a hS => ?_)
      refine wl rfl (ky (v := .int .i64 (ibit .or .i64 bits91 e105)) hS (y_bits hS rfl rfl rfl) rfl rfl fun a hS => ?_)
      refine wl rfl (ky (v := .int .i64 (IntKind.i64.wrap (sum89 + e105))) hS (y_assign hS rfl) rfl rfl fun a hS => ?_)
      refine wl rfl (ky (v := .int .i64 (max most90 e105)) hS (y_assign hS rfl) rfl rfl fun a hS => ?_)
      refine wl rfl (ky (v := .int .i64 (ibit .or .i64 bits91 e105)) hS (y_assign hS rfl) rfl rfl fun a hS => ?_)
      refine wpList_nil ?_
      try simp only [Exit.then, Exit.inBlock, ↓reduceIte, Nat.reduceEqDiff]
      refine hK53 _ _ ?_
      refine r_list ?_
      refine wl rfl (ky (v := .int .i64 (IntKind.i64.wrap (g92 + 1))) hS (y_int hS rfl rfl rfl) rfl rfl fun a hS => ?_)
      refine wl rfl (ky (v := .int .i64 (IntKind.i64.wrap (g92 + 1))) hS (y_move hS rfl) rfl rfl fun a hS => ?_)
      refine wpList_nil ?_
      try simp only [Exit.then, Exit.inBlock, ↓reduceIte, Nat.reduceEqDiff]
      exact ⟨(IntKind.i64.wrap (sum89 + e105), max most90 e105, ibit .or .i64 bits91 e105, IntKind.i64.wrap (g92 + 1)), (Option.some.inj hM).symm, (IntKind.i64.wrap (sum89 + e105)), (max most90 e105), (ibit .or .i64 bits91 e105), (IntKind.i64.wrap (g92 + 1)), rfl, (hS.meet [] (by decide) ⟨rfl, rfl, rfl, rfl, rfl, rfl, rfl, trivial⟩ trivial ⟨⟨1, rfl⟩, trivial⟩)⟩
    · replace hM := cf hb104 hM
      refine c_f hS rfl hb104 ?_
      refine wp_exit ?_
      try simp only [Exit.then, Exit.inBlock, ↓reduceIte, Nat.reduceEqDiff]
      injection hM with hM
      subst hM
      have hr := hf1 _ rfl
      subst hr
      have hM : toy_final_j1 kind_ sum89 most90 bits91 = some y := hMo1
      exact ⟨kind_, sum89, most90, bits91, (hS.meet [] (by decide) ⟨rfl, rfl, rfl, rfl, trivial⟩ trivial trivial), hM⟩
  · rintro a w ⟨kind70, sum71, most72, bits73, hS, hM⟩
    unfold toy_final_j1 at hM
    refine wp_seq_k fun K31 hK31 => ?_
    refine wp_seq_k fun K32 hK32 => ?_
    refine r_list ?_
    refine wl rfl (ky (v := .int .i64 kind70) hS (y_move hS rfl) rfl rfl fun a hS => ?_)
    refine wpList_nil ?_
    try simp only [Exit.then, Exit.inBlock, ↓reduceIte, Nat.reduceEqDiff]
    refine hK32 _ _ ?_
    refine wp_block ?_
    refine wp_seq_k fun K33 hK33 => ?_
    refine r_list ?_
    refine wl rfl (ky (v := .bool ((kind70 : Int) == 1)) hS (y_int hS rfl rfl rfl) rfl rfl fun a hS => ?_)
    refine wl rfl (ky (v := .bool ((kind70 : Int) == 1)) hS (y_assign hS rfl) rfl rfl fun a hS => ?_)
    refine wpList_nil ?_
    try simp only [Exit.then, Exit.inBlock, ↓reduceIte, Nat.reduceEqDiff]
    refine hK33 _ _ ?_
    rcases bool2 ((kind70 : Int) == 1) with hb74 | hb74
    · replace hM := ct hb74 hM
      refine c_t hS rfl hb74 ?_
      refine wp_seq_k fun K34 hK34 => ?_
      refine r_list ?_
      refine wl rfl (ky (v := .int .i64 sum71) hS (y_move hS rfl) rfl rfl fun a hS => ?_)
      refine wl rfl (ky (v := .int .i64 (Int.tmod sum71 1000)) hS (y_rem hS rfl rfl (by decide)) rfl rfl fun a hS => ?_)
      refine wl rfl (ky (v := .int .i64 (Int.tmod sum71 1000)) hS (y_assign hS rfl) rfl rfl fun a hS => ?_)
      refine wpList_nil ?_
      try simp only [Exit.then, Exit.inBlock, ↓reduceIte, Nat.reduceEqDiff]
      refine hK34 _ _ ?_
      refine wp_ret ?_
      injection hM with hM
      subst hM
      try simp only [Exit.then, Exit.inBlock, ↓reduceIte, Nat.reduceEqDiff]
      refine ret_ok hS Tryd.results89 (res_tmp hS rfl res_nil) ?_
      exact rfl
    · replace hM := cf hb74 hM
      refine c_f hS rfl hb74 ?_
      refine wp_seq_k fun K35 hK35 => ?_
      refine r_list ?_
      refine wl rfl (ky (v := .bool ((kind70 : Int) == 2)) hS (y_int hS rfl rfl rfl) rfl rfl fun a hS => ?_)
      refine wl rfl (ky (v := .bool ((kind70 : Int) == 2)) hS (y_assign hS rfl) rfl rfl fun a hS => ?_)
      refine wpList_nil ?_
      try simp only [Exit.then, Exit.inBlock, ↓reduceIte, Nat.reduceEqDiff]
      refine hK35 _ _ ?_
      rcases bool2 ((kind70 : Int) == 2) with hb75 | hb75
      · replace hM := ct hb75 hM
        refine c_t hS rfl hb75 ?_
        refine wp_seq_k fun K36 hK36 => ?_
        refine r_list ?_
        refine wl rfl (ky (v := .int .i64 sum71) hS (y_move hS rfl) rfl rfl fun a hS => ?_)
        refine wl rfl (ky (v := .int .i64 (IntKind.i64.wrap (Int.tdiv sum71 2))) hS (y_quo hS rfl rfl (by decide)) rfl rfl fun a hS => ?_)
        refine wl rfl (ky (v := .int .i64 (Int.tmod (IntKind.i64.wrap (Int.tdiv sum71 2)) 1000)) hS (y_rem hS rfl rfl (by decide)) rfl rfl fun a hS => ?_)
        refine wl rfl (ky (v := .int .i64 (Int.tmod (IntKind.i64.wrap (Int.tdiv sum71 2)) 1000)) hS (y_assign hS rfl) rfl rfl fun a hS => ?_)
        refine wpList_nil ?_
        try simp only [Exit.then, Exit.inBlock, ↓reduceIte, Nat.reduceEqDiff]
        refine hK36 _ _ ?_
        refine wp_ret ?_
        injection hM with hM
        subst hM
        try simp only [Exit.then, Exit.inBlock, ↓reduceIte, Nat.reduceEqDiff]
        refine ret_ok hS Tryd.results89 (res_tmp hS rfl res_nil) ?_
        exact rfl
      · replace hM := cf hb75 hM
        refine c_f hS rfl hb75 ?_
        refine wp_seq_k fun K37 hK37 => ?_
        refine r_list ?_
        refine wl rfl (ky (v := .bool ((kind70 : Int) == 3)) hS (y_int hS rfl rfl rfl) rfl rfl fun a hS => ?_)
        refine wl rfl (ky (v := .bool ((kind70 : Int) == 3)) hS (y_assign hS rfl) rfl rfl fun a hS => ?_)
        refine wpList_nil ?_
        try simp only [Exit.then, Exit.inBlock, ↓reduceIte, Nat.reduceEqDiff]
        refine hK37 _ _ ?_
        rcases bool2 ((kind70 : Int) == 3) with hb76 | hb76
        · replace hM := ct hb76 hM
          refine c_t hS rfl hb76 ?_
          refine wp_seq_k fun K38 hK38 => ?_
          refine r_list ?_
          refine wl rfl (ky (v := .int .i64 most72) hS (y_move hS rfl) rfl rfl fun a hS => ?_)
          refine wl rfl (ky (v := .int .i64 most72) hS (y_assign hS rfl) rfl rfl fun a hS => ?_)
          refine wpList_nil ?_
          try simp only [Exit.then, Exit.inBlock, ↓reduceIte, Nat.reduceEqDiff]
          refine hK38 _ _ ?_
          refine wp_ret ?_
          injection hM with hM
          subst hM
          try simp only [Exit.then, Exit.inBlock, ↓reduceIte, Nat.reduceEqDiff]
          refine ret_ok hS Tryd.results89 (res_tmp hS rfl res_nil) ?_
          exact rfl
        · replace hM := cf hb76 hM
          refine c_f hS rfl hb76 ?_
          refine wp_seq_k fun K39 hK39 => ?_
          refine r_list ?_
          refine wl rfl (ky (v := .bool ((kind70 : Int) == 4)) hS (y_int hS rfl rfl rfl) rfl rfl fun a hS => ?_)
          refine wl rfl (ky (v := .bool ((kind70 : Int) == 4)) hS (y_assign hS rfl) rfl rfl fun a hS => ?_)
          refine wpList_nil ?_
          try simp only [Exit.then, Exit.inBlock, ↓reduceIte, Nat.reduceEqDiff]
          refine hK39 _ _ ?_
          rcases bool2 ((kind70 : Int) == 4) with hb77 | hb77
          · replace hM := ct hb77 hM
            refine c_t hS rfl hb77 ?_
            refine wp_seq_k fun K40 hK40 => ?_
            refine r_list ?_
            refine wl rfl (ky (v := .int .i64 sum71) hS (y_move hS rfl) rfl rfl fun a hS => ?_)
            refine wl rfl (ky (v := .int .i64 (Int.tmod sum71 2)) hS (y_rem hS rfl rfl (by decide)) rfl rfl fun a hS => ?_)
            refine wl rfl (ky (v := .int .i64 (Int.tmod sum71 2)) hS (y_assign hS rfl) rfl rfl fun a hS => ?_)
            refine wpList_nil ?_
            try simp only [Exit.then, Exit.inBlock, ↓reduceIte, Nat.reduceEqDiff]
            refine hK40 _ _ ?_
            refine wp_ret ?_
            injection hM with hM
            subst hM
            try simp only [Exit.then, Exit.inBlock, ↓reduceIte, Nat.reduceEqDiff]
            refine ret_ok hS Tryd.results89 (res_tmp hS rfl res_nil) ?_
            exact rfl
          · replace hM := cf hb77 hM
            refine c_f hS rfl hb77 ?_
            refine wp_skip ?_
            try simp only [Exit.then, Exit.inBlock, ↓reduceIte, Nat.reduceEqDiff]
            refine hK31 _ _ ?_
            refine wp_seq_k fun K41 hK41 => ?_
            refine r_list ?_
            refine wl rfl (ky (v := .int .i64 bits73) hS (y_move hS rfl) rfl rfl fun a hS => ?_)
            refine wl rfl (ky (v := .int .i64 bits73) hS (y_assign hS rfl) rfl rfl fun a hS => ?_)
            refine wpList_nil ?_
            try simp only [Exit.then, Exit.inBlock, ↓reduceIte, Nat.reduceEqDiff]
            refine hK41 _ _ ?_
            refine wp_ret ?_
            injection hM with hM
            subst hM
            try simp only [Exit.then, Exit.inBlock, ↓reduceIte, Nat.reduceEqDiff]
            refine ret_ok hS Tryd.results89 (res_tmp hS rfl res_nil) ?_
            exact rfl

noncomputable def toy_Value (s_0 : ByteArray) : Option Int := (atoiM s_0).bind fun u14 => cond u14.2 (some (0)) (cond (decide ((u14.1 : Int) < 0)) (some (0)) (cond (decide ((65535 : Int) < u14.1)) (some (0)) ((itoaM u14.1).bind fun u24 => cond (!(u24.toList == s_0.toList)) (some (0)) (some (u14.1)))))
set_option maxRecDepth 100000 in
set_option maxHeartbeats 4000000 in
theorem toy_Value_c (T : Nat → Prop) (W0 : World) (hT : ∀ k, T k → k < W0.heap.size) (hLv : LvP T W0) (s_0 : ByteArray) (y : Int) (hM : toy_Value s_0 = some y) : Rets Tryd.prog No 62 [.string s_0] W0 (fun v w' => v = .int .i64 y) := by
  refine enter (c := _) Tryd.func62 rfl T 27 Tryd.ntmps62 hT rfl fun a hS => ?_
  replace hS := hS.fact LvF (LvP.dn hLv)
  unfold toy_Value at hM
  refine wp_seq_k fun K10 hK10 => ?_
  refine r_list ?_
  refine wl rfl (ky (v := .int .i64 0) hS (y_assign hS rfl) rfl rfl fun a hS => ?_)
  refine wpList_nil ?_
  try simp only [Exit.then, Exit.inBlock, ↓reduceIte, Nat.reduceEqDiff]
  refine hK10 _ _ ?_
  refine wp_seq_k fun K11 hK11 => ?_
  refine r_list ?_
  refine wl rfl (ky (v := .string s_0) hS (y_move hS rfl) rfl rfl fun a hS => ?_)
  obtain ⟨u14, hu14, hM⟩ := bd hM
  refine wl rfl (k_call hS ci90 rfl rfl (atoiM_c _ _ hS.dlt (hS.get 0 rfl) s_0 _ hu14) fun _ w hR a hk hA => ?_)
  obtain ⟨vz15_1, he, hEvz15_1⟩ := hR
  replace he := he.symm
  subst he
  have hS := hA [] (fun r hr => by cases hr) List.Pairwise.nil
  refine wl rfl (ky (v := .tuple #[.int .i64 u14.1, vz15_1]) hS (y_move hS rfl) rfl rfl fun a hS => ?_)
  refine wl rfl (ky (v := .int .i64 u14.1) hS (y_ex hS rfl rfl) rfl rfl fun a hS => ?_)
  refine wl rfl (ky (v := vz15_1) hS (y_ex hS rfl rfl) rfl rfl fun a hS => ?_)
  refine wl rfl (ky (v := .int .i64 u14.1) hS (y_assign hS rfl) rfl rfl fun a hS => ?_)
  refine wl rfl (ky (v := vz15_1) hS (y_assign hS rfl) rfl rfl fun a hS => ?_)
  refine wpList_nil ?_
  try simp only [Exit.then, Exit.inBlock, ↓reduceIte, Nat.reduceEqDiff]
  refine hK11 _ _ ?_
  refine wp_seq_k fun K12 hK12 => ?_
  refine wp_seq_k fun K13 hK13 => ?_
  refine r_list ?_
  refine wl rfl (ky (v := vz15_1) hS (y_move hS rfl) rfl rfl fun a hS => ?_)
  refine wl rfl (ky (v := .bool u14.2) hS (y_errne hS rfl hEvz15_1 if129) rfl rfl fun a hS => ?_)
  refine wl rfl (ky (v := .bool u14.2) hS (y_move hS rfl) rfl rfl fun a hS => ?_)
  rcases bool2 (u14.2) with hb21 | hb21
  · replace hM := ct hb21 hM
    refine wn hS rfl rfl rfl hb21 rfl rfl fun a hS => ?_
    refine wn hS rfl rfl rfl hb21 rfl rfl fun a hS => ?_
    refine wl rfl (ky (v := .bool true) hS (y_pickt hS rfl hb21 rfl) rfl rfl fun a hS => ?_)
    refine wl rfl (ky (v := .bool true) hS (y_move hS rfl) rfl rfl fun a hS => ?_)
    refine wn hS rfl rfl rfl rfl rfl rfl fun a hS => ?_
    refine wn hS rfl rfl rfl rfl rfl rfl fun a hS => ?_
    refine wl rfl (ky (v := .bool true) hS (y_pickt hS rfl rfl rfl) rfl rfl fun a hS => ?_)
    refine wl rfl (ky (v := .bool true) hS (y_move hS rfl) rfl rfl fun a hS => ?_)
    refine wn hS rfl rfl rfl rfl rfl rfl fun a hS => ?_
    refine wn hS rfl rfl rfl rfl rfl rfl fun a hS => ?_
    refine wn hS rfl rfl rfl rfl rfl rfl fun a hS => ?_
    refine wn hS rfl rfl rfl rfl rfl rfl fun a hS => ?_
    refine wl rfl (ky (v := .bool true) hS (y_pickt hS rfl rfl rfl) rfl rfl fun a hS => ?_)
    refine wpList_nil ?_
    try simp only [Exit.then, Exit.inBlock, ↓reduceIte, Nat.reduceEqDiff]
    refine hK13 _ _ ?_
    refine c_t hS rfl rfl ?_
    refine wp_seq_k fun K14 hK14 => ?_
    refine r_list ?_
    refine wl rfl (ky (v := .int .i64 0) hS (y_assign hS rfl) rfl rfl fun a hS => ?_)
    refine wpList_nil ?_
    try simp only [Exit.then, Exit.inBlock, ↓reduceIte, Nat.reduceEqDiff]
    refine hK14 _ _ ?_
    refine wp_ret ?_
    injection hM with hM
    subst hM
    try simp only [Exit.then, Exit.inBlock, ↓reduceIte, Nat.reduceEqDiff]
    refine ret_ok hS Tryd.results62 (res_tmp hS rfl res_nil) ?_
    exact rfl
  · replace hM := cf hb21 hM
    refine wg hS rfl rfl rfl hb21 (ky (v := .int .i64 u14.1) hS (y_move hS rfl) rfl rfl fun a hS => ?_)
    refine wg hS rfl rfl rfl hb21 (ky (v := .bool (decide ((u14.1 : Int) < 0))) hS (y_int hS rfl rfl rfl) rfl rfl fun a hS => ?_)
    refine wl rfl (ky (v := .bool (decide ((u14.1 : Int) < 0))) hS (y_pickf hS rfl hb21 rfl) rfl rfl fun a hS => ?_)
    refine wl rfl (ky (v := .bool (decide ((u14.1 : Int) < 0))) hS (y_move hS rfl) rfl rfl fun a hS => ?_)
    rcases bool2 (decide ((u14.1 : Int) < 0)) with hb22 | hb22
    · replace hM := ct hb22 hM
      refine wn hS rfl rfl rfl hb22 rfl rfl fun a hS => ?_
      refine wn hS rfl rfl rfl hb22 rfl rfl fun a hS => ?_
      refine wl rfl (ky (v := .bool true) hS (y_pickt hS rfl hb22 rfl) rfl rfl fun a hS => ?_)
      refine wl rfl (ky (v := .bool true) hS (y_move hS rfl) rfl rfl fun a hS => ?_)
      refine wn hS rfl rfl rfl rfl rfl rfl fun a hS => ?_
      refine wn hS rfl rfl rfl rfl rfl rfl fun a hS => ?_
      refine wn hS rfl rfl rfl rfl rfl rfl fun a hS => ?_
      refine wn hS rfl rfl rfl rfl rfl rfl fun a hS => ?_
      refine wl rfl (ky (v := .bool true) hS (y_pickt hS rfl rfl rfl) rfl rfl fun a hS => ?_)
      refine wpList_nil ?_
      try simp only [Exit.then, Exit.inBlock, ↓reduceIte, Nat.reduceEqDiff]
      refine hK13 _ _ ?_
      refine c_t hS rfl rfl ?_
      refine wp_seq_k fun K15 hK15 => ?_
      refine r_list ?_
      refine wl rfl (ky (v := .int .i64 0) hS (y_assign hS rfl) rfl rfl fun a hS => ?_)
      refine wpList_nil ?_
      try simp only [Exit.then, Exit.inBlock, ↓reduceIte, Nat.reduceEqDiff]
      refine hK15 _ _ ?_
      refine wp_ret ?_
      injection hM with hM
      subst hM
      try simp only [Exit.then, Exit.inBlock, ↓reduceIte, Nat.reduceEqDiff]
      refine ret_ok hS Tryd.results62 (res_tmp hS rfl res_nil) ?_
      exact rfl
    · replace hM := cf hb22 hM
      refine wg hS rfl rfl rfl hb22 (ky (v := .int .i64 u14.1) hS (y_move hS rfl) rfl rfl fun a hS => ?_)
      refine wg hS rfl rfl rfl hb22 (ky (v := .bool (decide ((65535 : Int) < u14.1))) hS (y_int hS rfl rfl rfl) rfl rfl fun a hS => ?_)
      refine wl rfl (ky (v := .bool (decide ((65535 : Int) < u14.1))) hS (y_pickf hS rfl hb22 rfl) rfl rfl fun a hS => ?_)
      refine wl rfl (ky (v := .bool (decide ((65535 : Int) < u14.1))) hS (y_move hS rfl) rfl rfl fun a hS => ?_)
      rcases bool2 (decide ((65535 : Int) < u14.1)) with hb23 | hb23
      · replace hM := ct hb23 hM
        refine wn hS rfl rfl rfl hb23 rfl rfl fun a hS => ?_
        refine wn hS rfl rfl rfl hb23 rfl rfl fun a hS => ?_
        refine wn hS rfl rfl rfl hb23 rfl rfl fun a hS => ?_
        refine wn hS rfl rfl rfl hb23 rfl rfl fun a hS => ?_
        refine wl rfl (ky (v := .bool true) hS (y_pickt hS rfl hb23 rfl) rfl rfl fun a hS => ?_)
        refine wpList_nil ?_
        try simp only [Exit.then, Exit.inBlock, ↓reduceIte, Nat.reduceEqDiff]
        refine hK13 _ _ ?_
        refine c_t hS rfl rfl ?_
        refine wp_seq_k fun K16 hK16 => ?_
        refine r_list ?_
        refine wl rfl (ky (v := .int .i64 0) hS (y_assign hS rfl) rfl rfl fun a hS => ?_)
        refine wpList_nil ?_
        try simp only [Exit.then, Exit.inBlock, ↓reduceIte, Nat.reduceEqDiff]
        refine hK16 _ _ ?_
        refine wp_ret ?_
        injection hM with hM
        subst hM
        try simp only [Exit.then, Exit.inBlock, ↓reduceIte, Nat.reduceEqDiff]
        refine ret_ok hS Tryd.results62 (res_tmp hS rfl res_nil) ?_
        exact rfl
      · replace hM := cf hb23 hM
        refine wg hS rfl rfl rfl hb23 (ky (v := .int .i64 u14.1) hS (y_move hS rfl) rfl rfl fun a hS => ?_)
        obtain ⟨u24, hu24, hM⟩ := bd hM
        refine wg hS rfl rfl rfl hb23 (k_call hS ci51 rfl rfl (itoaM_c _ _ hS.dlt (hS.get 0 rfl) u14.1 _ hu24) fun _ w hR a hk hA => ?_)
        have he := Eq.symm hR
        subst he
        have hS := hA [] (fun r hr => by cases hr) List.Pairwise.nil
        refine wg hS rfl rfl rfl hb23 (ky (v := .string s_0) hS (y_move hS rfl) rfl rfl fun a hS => ?_)
        refine wg hS rfl rfl rfl hb23 (ky (v := .bool (!(u24.toList == s_0.toList))) hS (y_str hS rfl rfl rfl) rfl rfl fun a hS => ?_)
        refine wl rfl (ky (v := .bool (!(u24.toList == s_0.toList))) hS (y_pickf hS rfl hb23 rfl) rfl rfl fun a hS => ?_)
        refine wpList_nil ?_
        try simp only [Exit.then, Exit.inBlock, ↓reduceIte, Nat.reduceEqDiff]
        refine hK13 _ _ ?_
        rcases bool2 (!(u24.toList == s_0.toList)) with hb26 | hb26
        · replace hM := ct hb26 hM
          refine c_t hS rfl hb26 ?_
          refine wp_seq_k fun K17 hK17 => ?_
          refine r_list ?_
          refine wl rfl (ky (v := .int .i64 0) hS (y_assign hS rfl) rfl rfl fun a hS => ?_)
          refine wpList_nil ?_
          try simp only [Exit.then, Exit.inBlock, ↓reduceIte, Nat.reduceEqDiff]
          refine hK17 _ _ ?_
          refine wp_ret ?_
          injection hM with hM
          subst hM
          try simp only [Exit.then, Exit.inBlock, ↓reduceIte, Nat.reduceEqDiff]
          refine ret_ok hS Tryd.results62 (res_tmp hS rfl res_nil) ?_
          exact rfl
        · replace hM := cf hb26 hM
          refine c_f hS rfl hb26 ?_
          refine wp_skip ?_
          try simp only [Exit.then, Exit.inBlock, ↓reduceIte, Nat.reduceEqDiff]
          refine hK12 _ _ ?_
          refine wp_seq_k fun K18 hK18 => ?_
          refine r_list ?_
          refine wl rfl (ky (v := .int .i64 u14.1) hS (y_move hS rfl) rfl rfl fun a hS => ?_)
          refine wl rfl (ky (v := .int .i64 u14.1) hS (y_assign hS rfl) rfl rfl fun a hS => ?_)
          refine wpList_nil ?_
          try simp only [Exit.then, Exit.inBlock, ↓reduceIte, Nat.reduceEqDiff]
          refine hK18 _ _ ?_
          refine wp_ret ?_
          injection hM with hM
          subst hM
          try simp only [Exit.then, Exit.inBlock, ↓reduceIte, Nat.reduceEqDiff]
          refine ret_ok hS Tryd.results62 (res_tmp hS rfl res_nil) ?_
          exact rfl

noncomputable def toy_Turn_j1 (rules_ : (List RuleD)) (e271 : AskD) (to312 : Int) : Option TurnD := cond e271.Cell ((key_Cell to312).bind fun u314 => some ((TurnD.mk false (ByteArray.mk #[]) u314))) ((key_Of rules_ to312).bind fun u316 => some ((TurnD.mk false (ByteArray.mk #[]) u316)))
noncomputable def toy_Turn_j2 (rules_ : (List RuleD)) (e271 : AskD) (g338 : Bool) : Option TurnD := cond g338 (toy_Turn_j1 rules_ e271 e271.Else) (toy_Turn_j1 rules_ e271 e271.N)
noncomputable def toy_Turn_j3 (e260 : RuleD) (l403 : (List Int)) : Option TurnD := (toy_final e260.Final l403).bind fun u407 => (itoaM u407).bind fun u409 => some ((TurnD.mk true u409 (KeyD.mk 0 (ByteArray.mk #[]))))
noncomputable def toy_Turn_l4 (l411 : (List ByteArray)) (l437 : (List Int)) (g441 : Int) : Option (Fl ((List Int) × Int) ((List Int))) := cond (decide ((g441 : Int) < (l411.length : Int))) ((getI l411 g441).bind fun e463 => (toy_Value e463).bind fun u469 => gd (roomB (l437.length + ([u469]).length)) <| some (.go ((l437 ++ ([u469])), IntKind.i64.wrap (g441 + 1)))) (some (.out l437))
noncomputable def toy_Turn (rules_ : (List RuleD)) (k_1 : KeyD) (answers_ : (List ByteArray)) : Option TurnD := (key_Number k_1).bind fun u241 => cond (decide ((u241 : Int) < 0)) (some ((TurnD.mk true (ByteArray.mk #[]) (KeyD.mk 0 (ByteArray.mk #[]))))) (cond ((k_1.Kind : Int) == 30) (some ((TurnD.mk true (ByteArray.mk #[]) (KeyD.mk 0 (ByteArray.mk #[]))))) ((key_Of rules_ u241).bind fun u257 => cond (!((u257.Kind : Int) == k_1.Kind && u257.Text.toList == k_1.Text.toList)) (some ((TurnD.mk true (ByteArray.mk #[]) (KeyD.mk 0 (ByteArray.mk #[]))))) ((getI rules_ u241).bind fun e260 => cond (decide (((answers_.length : Int) : Int) < (e260.Asks.length : Int))) ((getI e260.Asks (answers_.length : Int)).bind fun e271 => cond e271.Pick (cond (decide ((0 : Int) < (answers_.length : Int))) ((getI answers_ (IntKind.i64.wrap ((answers_.length : Int) - 1))).bind fun e342 => (toy_Value e342).bind fun u348 => toy_Turn_j2 rules_ e271 ((Int.tmod u348 2 : Int) == 0)) (toy_Turn_j2 rules_ e271 false)) (toy_Turn_j2 rules_ e271 false)) ((subI answers_ 0 (e260.Asks.length : Int)).bind fun l411 => (loop (fun s : (List Int) × Int => toy_Turn_l4 l411 s.1 s.2) ([e260.C], 0)).bind fun r => toy_Turn_j3 e260 r))))
set_option maxRecDepth 100000 in
set_option maxHeartbeats 4000000 in
theorem toy_Turn_c (T : Nat → Prop) (W0 : World) (hT : ∀ k, T k → k < W0.heap.size) (hLv : LvP T W0) (rules_ : (List RuleD)) (k_1 : KeyD) (answers_ : (List ByteArray)) (v1 : Value) (v2 : Value) (hv1 : SlR R_RuleD T W0 v1 rules_) (hv2 : SlR Rep.str T W0 v2 answers_) (y : TurnD) (hM : toy_Turn rules_ k_1 answers_ = some y) : Rets Tryd.prog No 60 [v1, .agg #[.int .i64 k_1.Kind, .string k_1.Text], v2] W0 (fun v w' => v = .agg #[.bool y.Done, .string y.Value, .int .i64 y.Ask.Kind, .string y.Ask.Text]) := by
  refine enter (c := _) Tryd.func60 rfl T 102 Tryd.ntmps60 hT rfl fun a hS => ?_
  replace hS := hS.fact LvF (LvP.dn hLv)
  replace hS := hS.fact (SlF R_RuleD v1 rules_) (SlR.dn hv1)
  replace hS := hS.fact (SlF Rep.str v2 answers_) (SlR.dn hv2)
  unfold toy_Turn at hM
  refine wp_seq_k fun K38 hK38 => ?_
  refine r_list ?_
  refine wl rfl (k_box hS rfl (cs := [.int .i64 k_1.Kind, .string k_1.Text]) rfl rfl fun b235 hnb237 a w hk hS => ?_)
  refine wl rfl (k_alloc hS ze97 rfl fun b238 hnb240 a w hk hS => ?_)
  refine wpList_nil ?_
  try simp only [Exit.then, Exit.inBlock, ↓reduceIte, Nat.reduceEqDiff]
  refine hK38 _ _ ?_
  refine wp_seq_k fun K39 hK39 => ?_
  refine r_list ?_
  refine wl rfl (ky (v := .agg #[.int .i64 k_1.Kind, .string k_1.Text]) hS (y_load hS rfl ty26 1 rfl id (us := [.int .i64 k_1.Kind, .string k_1.Text]) rfl rfl (fun h => by cases h)) rfl rfl fun a hS => ?_)
  obtain ⟨u241, hu241, hM⟩ := bd hM
  refine wl rfl (k_call hS ci83 rfl rfl (key_Number_c _ _ hS.dlt (hS.get 2 rfl) k_1 _ hu241) fun _ w hR a hk hA => ?_)
  have he := Eq.symm hR
  subst he
  have hS := hA [] (fun r hr => by cases hr) List.Pairwise.nil
  refine wl rfl (ky (v := .int .i64 u241) hS (y_assign hS rfl) rfl rfl fun a hS => ?_)
  refine wpList_nil ?_
  try simp only [Exit.then, Exit.inBlock, ↓reduceIte, Nat.reduceEqDiff]
  refine hK39 _ _ ?_
  refine wp_seq_k fun K40 hK40 => ?_
  refine wp_seq_k fun K41 hK41 => ?_
  refine draws [] hS mixed rfl (fun c a d v w h => by cases d <;> exact h) fun w hQ hS => ?_
  refine dy 0 (v := .int .i64 u241) rfl (by kernel_rfl) (by kernel_rfl) (by kernel_rfl) rfl hQ hS (y_move hS rfl) rfl rfl rfl fun a hS => ?_
  refine dy 1 (v := .bool (decide ((u241 : Int) < 0))) rfl (by kernel_rfl) (by kernel_rfl) (by kernel_rfl) rfl hQ hS (y_int hS rfl rfl rfl) rfl rfl rfl fun a hS => ?_
  refine dy 2 (v := .bool (decide ((u241 : Int) < 0))) rfl (by kernel_rfl) (by kernel_rfl) (by kernel_rfl) rfl hQ hS (y_move hS rfl) rfl rfl rfl fun a hS => ?_
  rcases bool2 (decide ((u241 : Int) < 0)) with hb255 | hb255
  · replace hM := ct hb255 hM
    refine dyn 3 rfl (by kernel_rfl) (by kernel_rfl) (by kernel_rfl) hQ hS rfl rfl rfl hb255 rfl rfl fun a hS => ?_
    refine dyn 4 rfl (by kernel_rfl) (by kernel_rfl) (by kernel_rfl) hQ hS rfl rfl rfl hb255 rfl rfl fun a hS => ?_
    refine dyn 5 rfl (by kernel_rfl) (by kernel_rfl) (by kernel_rfl) hQ hS rfl rfl rfl hb255 rfl rfl fun a hS => ?_
    refine dy 6 (v := .bool true) rfl (by kernel_rfl) (by kernel_rfl) (by kernel_rfl) rfl hQ hS (y_pickt hS rfl hb255 rfl) rfl rfl rfl fun a hS => ?_
    refine dy 7 (v := .bool true) rfl (by kernel_rfl) (by kernel_rfl) (by kernel_rfl) rfl hQ hS (y_move hS rfl) rfl rfl rfl fun a hS => ?_
    refine dyn 8 rfl (by kernel_rfl) (by kernel_rfl) (by kernel_rfl) hQ hS rfl rfl rfl rfl rfl rfl fun a hS => ?_
    refine dyn 9 rfl (by kernel_rfl) (by kernel_rfl) (by kernel_rfl) hQ hS rfl rfl rfl rfl rfl rfl fun a hS => ?_
    refine dyn 10 rfl (by kernel_rfl) (by kernel_rfl) (by kernel_rfl) hQ hS rfl rfl rfl rfl rfl rfl fun a hS => ?_
    refine dyn 11 rfl (by kernel_rfl) (by kernel_rfl) (by kernel_rfl) hQ hS rfl rfl rfl rfl rfl rfl fun a hS => ?_
    refine dyn 12 rfl (by kernel_rfl) (by kernel_rfl) (by kernel_rfl) hQ hS rfl rfl rfl rfl rfl rfl fun a hS => ?_
    refine dy 13 (v := .bool true) rfl (by kernel_rfl) (by kernel_rfl) (by kernel_rfl) rfl hQ hS (y_pickt hS rfl rfl rfl) rfl rfl rfl fun a hS => ?_
    refine wpE_done (by kernel_rfl) ?_ _
    try simp only [Exit.then, Exit.inBlock, ↓reduceIte, Nat.reduceEqDiff]
    refine hK41 _ _ ?_
    refine c_t hS rfl rfl ?_
    refine wp_seq_k fun K42 hK42 => ?_
    refine r_list ?_
    refine wl rfl (ky (v := .agg #[.bool true, .string (ByteArray.mk #[]), .int .i64 0, .string (ByteArray.mk #[])]) hS (y_build (ps := [(0, .const (.bool true))]) hS pl97 ze97 rfl (us := [[.bool true]]) ⟨rfl, trivial⟩ (ws := [.bool true, .string (ByteArray.mk #[]), .int .i64 0, .string (ByteArray.mk #[])]) rfl) rfl rfl fun a hS => ?_)
    refine wl rfl (k_store hS rfl rfl (us := [.bool true, .string (ByteArray.mk #[]), .int .i64 0, .string (ByteArray.mk #[])]) rfl ty97 0 rfl rfl rfl (oc rfl (oc rfl (oc rfl (oc rfl on)))) fun w hk hS => ?_)
    refine wpList_nil ?_
    try simp only [Exit.then, Exit.inBlock, ↓reduceIte, Nat.reduceEqDiff]
    refine hK42 _ _ ?_
    refine wp_ret ?_
    injection hM with hM
    subst hM
    try simp only [Exit.then, Exit.inBlock, ↓reduceIte, Nat.reduceEqDiff]
    refine ret_ok hS Tryd.results60 (res_cell hS rfl 0 rfl ty97 rfl (fun h => by cases h) res_nil) ?_
    exact rfl
  · replace hM := cf hb255 hM
    refine dyg 3 (v := .pointer (some ⟨b235, 0 + 0, none⟩)) rfl (by kernel_rfl) (by kernel_rfl) (by kernel_rfl) rfl hQ hS (y_fld hS rfl fl26_0) rfl rfl rfl hb255 rfl rfl fun a hS => ?_
    refine dyg (l := []) 4 (v := .int .i64 k_1.Kind) rfl (by kernel_rfl) (by kernel_rfl) (by kernel_rfl) (by kernel_rfl) hQ hS (y_load hS rfl ty3 1 rfl eo_nil (us := [.int .i64 k_1.Kind]) rfl rfl (fun _ => rfl)) rfl rfl rfl hb255 rfl rfl fun a hS => ?_
    refine dyg 5 (v := .bool ((k_1.Kind : Int) == 30)) rfl (by kernel_rfl) (by kernel_rfl) (by kernel_rfl) rfl hQ hS (y_int hS rfl rfl rfl) rfl rfl rfl hb255 rfl rfl fun a hS => ?_
    refine dy 6 (v := .bool ((k_1.Kind : Int) == 30)) rfl (by kernel_rfl) (by kernel_rfl) (by kernel_rfl) rfl hQ hS (y_pickf hS rfl hb255 rfl) rfl rfl rfl fun a hS => ?_
    refine dy 7 (v := .bool ((k_1.Kind : Int) == 30)) rfl (by kernel_rfl) (by kernel_rfl) (by kernel_rfl) rfl hQ hS (y_move hS rfl) rfl rfl rfl fun a hS => ?_
    rcases bool2 ((k_1.Kind : Int) == 30) with hb256 | hb256
    · replace hM := ct hb256 hM
      refine dyn 8 rfl (by kernel_rfl) (by kernel_rfl) (by kernel_rfl) hQ hS rfl rfl rfl hb256 rfl rfl fun a hS => ?_
      refine dyn 9 rfl (by kernel_rfl) (by kernel_rfl) (by kernel_rfl) hQ hS rfl rfl rfl hb256 rfl rfl fun a hS => ?_
      refine dyn 10 rfl (by kernel_rfl) (by kernel_rfl) (by kernel_rfl) hQ hS rfl rfl rfl hb256 rfl rfl fun a hS => ?_
      refine dyn 11 rfl (by kernel_rfl) (by kernel_rfl) (by kernel_rfl) hQ hS rfl rfl rfl hb256 rfl rfl fun a hS => ?_
      refine dyn 12 rfl (by kernel_rfl) (by kernel_rfl) (by kernel_rfl) hQ hS rfl rfl rfl hb256 rfl rfl fun a hS => ?_
      refine dy 13 (v := .bool true) rfl (by kernel_rfl) (by kernel_rfl) (by kernel_rfl) rfl hQ hS (y_pickt hS rfl hb256 rfl) rfl rfl rfl fun a hS => ?_
      refine wpE_done (by kernel_rfl) ?_ _
      try simp only [Exit.then, Exit.inBlock, ↓reduceIte, Nat.reduceEqDiff]
      refine hK41 _ _ ?_
      refine c_t hS rfl rfl ?_
      refine wp_seq_k fun K43 hK43 => ?_
      refine r_list ?_
      refine wl rfl (ky (v := .agg #[.bool true, .string (ByteArray.mk #[]), .int .i64 0, .string (ByteArray.mk #[])]) hS (y_build (ps := [(0, .const (.bool true))]) hS pl97 ze97 rfl (us := [[.bool true]]) ⟨rfl, trivial⟩ (ws := [.bool true, .string (ByteArray.mk #[]), .int .i64 0, .string (ByteArray.mk #[])]) rfl) rfl rfl fun a hS => ?_)
      refine wl rfl (k_store hS rfl rfl (us := [.bool true, .string (ByteArray.mk #[]), .int .i64 0, .string (ByteArray.mk #[])]) rfl ty97 0 rfl rfl rfl (oc rfl (oc rfl (oc rfl (oc rfl on)))) fun w hk hS => ?_)
      refine wpList_nil ?_
      try simp only [Exit.then, Exit.inBlock, ↓reduceIte, Nat.reduceEqDiff]
      refine hK43 _ _ ?_
      refine wp_ret ?_
      injection hM with hM
      subst hM
      try simp only [Exit.then, Exit.inBlock, ↓reduceIte, Nat.reduceEqDiff]
      refine ret_ok hS Tryd.results60 (res_cell hS rfl 0 rfl ty97 rfl (fun h => by cases h) res_nil) ?_
      exact rfl
    · replace hM := cf hb256 hM
      refine dyg 8 (v := v1) rfl (by kernel_rfl) (by kernel_rfl) (by kernel_rfl) rfl hQ hS (y_move hS rfl) rfl rfl rfl hb256 rfl rfl fun a hS => ?_
      refine dyg 9 (v := .int .i64 u241) rfl (by kernel_rfl) (by kernel_rfl) (by kernel_rfl) rfl hQ hS (y_move hS rfl) rfl rfl rfl hb256 rfl rfl fun a hS => ?_
      refine dyg (l := []) 11 (v := .agg #[.int .i64 k_1.Kind, .string k_1.Text]) rfl (by kernel_rfl) (by kernel_rfl) (by kernel_rfl) (by kernel_rfl) hQ hS (y_load hS rfl ty26 1 rfl eo_nil (us := [.int .i64 k_1.Kind, .string k_1.Text]) rfl rfl (fun h => by cases h)) rfl rfl rfl hb256 rfl rfl fun a hS => ?_
      obtain ⟨u257, hu257, hM⟩ := bd hM
      refine wpE_oneg (i := 10) rfl (by kernel_rfl) hS rfl rfl rfl hb256 (k_call hS ci87 rfl rfl (key_Of_c _ _ hS.dlt (hS.get 2 rfl) rules_ u241 _ (hS.get 1 rfl) _ hu257) fun _ w hR a hk hA => ⟨stN (hk), ?_⟩)
      have he := Eq.symm hR
      subst he
      have hS := hA [] (fun r hr => by cases hr) List.Pairwise.nil
      refine dyg 12 (v := .bool (!((u257.Kind : Int) == k_1.Kind && u257.Text.toList == k_1.Text.toList))) rfl (by kernel_rfl) (by kernel_rfl) (by kernel_rfl) rfl hQ hS (eq26n hS rfl rfl) rfl rfl rfl hb256 rfl rfl fun a hS => ?_
      refine dy 13 (v := .bool (!((u257.Kind : Int) == k_1.Kind && u257.Text.toList == k_1.Text.toList))) rfl (by kernel_rfl) (by kernel_rfl) (by kernel_rfl) rfl hQ hS (y_pickf hS rfl hb256 rfl) rfl rfl rfl fun a hS => ?_
      refine wpE_done (by kernel_rfl) ?_ _
      try simp only [Exit.then, Exit.inBlock, ↓reduceIte, Nat.reduceEqDiff]
      refine hK41 _ _ ?_
      rcases bool2 (!((u257.Kind : Int) == k_1.Kind && u257.Text.toList == k_1.Text.toList)) with hb259 | hb259
      · replace hM := ct hb259 hM
        refine c_t hS rfl hb259 ?_
        refine wp_seq_k fun K44 hK44 => ?_
        refine r_list ?_
        refine wl rfl (ky (v := .agg #[.bool true, .string (ByteArray.mk #[]), .int .i64 0, .string (ByteArray.mk #[])]) hS (y_build (ps := [(0, .const (.bool true))]) hS pl97 ze97 rfl (us := [[.bool true]]) ⟨rfl, trivial⟩ (ws := [.bool true, .string (ByteArray.mk #[]), .int .i64 0, .string (ByteArray.mk #[])]) rfl) rfl rfl fun a hS => ?_)
        refine wl rfl (k_store hS rfl rfl (us := [.bool true, .string (ByteArray.mk #[]), .int .i64 0, .string (ByteArray.mk #[])]) rfl ty97 0 rfl rfl rfl (oc rfl (oc rfl (oc rfl (oc rfl on)))) fun w hk hS => ?_)
        refine wpList_nil ?_
        try simp only [Exit.then, Exit.inBlock, ↓reduceIte, Nat.reduceEqDiff]
        refine hK44 _ _ ?_
        refine wp_ret ?_
        injection hM with hM
        subst hM
        try simp only [Exit.then, Exit.inBlock, ↓reduceIte, Nat.reduceEqDiff]
        refine ret_ok hS Tryd.results60 (res_cell hS rfl 0 rfl ty97 rfl (fun h => by cases h) res_nil) ?_
        exact rfl
      · replace hM := cf hb259 hM
        refine c_f hS rfl hb259 ?_
        refine wp_skip ?_
        try simp only [Exit.then, Exit.inBlock, ↓reduceIte, Nat.reduceEqDiff]
        refine hK40 _ _ ?_
        refine wp_seq_k fun K45 hK45 => ?_
        refine r_list ?_
        refine wl rfl (ky (v := v1) hS (y_move hS rfl) rfl rfl fun a hS => ?_)
        refine wl rfl (ky (v := .int .i64 u241) hS (y_move hS rfl) rfl rfl fun a hS => ?_)
        obtain ⟨e260, he260, hM⟩ := bd hM
        refine wl rfl (k_index (R := R_RuleD) hS sl44 ty48 rfl rfl 1 rfl he260 rfl fun b262 o263 cs265 hr264 a hS => ?_)
        obtain ⟨v261, rfl, hv261⟩ := hr264
        replace hS := hS.fact (SlF R_AskD v261 e260.Asks) hv261
        refine wl rfl (ky (v := .agg #[.bool e260.Ring, v261, .int .i64 e260.Final, .int .i64 e260.C]) hS (y_loadc (k := 0) hS ty48 1 rfl rfl (fun _ h => h.elim) (us := [.bool e260.Ring, v261, .int .i64 e260.Final, .int .i64 e260.C]) rfl rfl (fun h => by cases h)) rfl rfl fun a hS => ?_)
        refine wl rfl (k_alloc hS ze48 rfl fun b267 hnb269 a w hk hS => ?_)
        refine wl rfl (k_store hS rfl rfl (us := [.bool e260.Ring, v261, .int .i64 e260.Final, .int .i64 e260.C]) rfl ty48 0 rfl rfl rfl (oc rfl (oc (SlR.one ((hS.get 0 rfl) : SlR R_AskD _ _ _ _)) (oc rfl (oc rfl on)))) fun w hk hS => ?_)
        refine wpList_nil ?_
        try simp only [Exit.then, Exit.inBlock, ↓reduceIte, Nat.reduceEqDiff]
        refine hK45 _ _ ?_
        refine wp_seq_k fun K46 hK46 => ?_
        refine wp_seq_k fun K47 hK47 => ?_
        refine r_list ?_
        refine wl rfl (ky (v := v2) hS (y_move hS rfl) rfl rfl fun a hS => ?_)
        refine wl rfl (ky (v := .int .i64 (answers_.length : Int)) hS (y_len (R := Rep.str) (xs := answers_) hS sl100 rfl 2 rfl) rfl rfl fun a hS => ?_)
        refine wl rfl (ky (v := .int .i64 (answers_.length : Int)) hS (y_assign hS rfl) rfl rfl fun a hS => ?_)
        refine wpList_nil ?_
        try simp only [Exit.then, Exit.inBlock, ↓reduceIte, Nat.reduceEqDiff]
        refine hK47 _ _ ?_
        refine wp_seq_k fun K48 hK48 => ?_
        refine r_list ?_
        refine wl rfl (ky (v := .int .i64 (answers_.length : Int)) hS (y_move hS rfl) rfl rfl fun a hS => ?_)
        refine wl rfl (ky (v := .pointer (some ⟨b267, 0 + 1, none⟩)) hS (y_fld hS rfl fl48_1) rfl rfl fun a hS => ?_)
        refine wl rfl (ky (v := v261) hS (y_load hS rfl ty46 0 rfl id (us := [v261]) rfl rfl (fun _ => rfl)) rfl rfl fun a hS => ?_)
        refine wl rfl (ky (v := .int .i64 (e260.Asks.length : Int)) hS (y_len (R := R_AskD) (xs := e260.Asks) hS sl46 rfl 0 rfl) rfl rfl fun a hS => ?_)
        refine wl rfl (ky (v := .bool (decide (((answers_.length : Int) : Int) < (e260.Asks.length : Int)))) hS (y_int hS rfl rfl rfl) rfl rfl fun a hS => ?_)
        refine wpList_nil ?_
        try simp only [Exit.then, Exit.inBlock, ↓reduceIte, Nat.reduceEqDiff]
        refine hK48 _ _ ?_
        rcases bool2 (decide (((answers_.length : Int) : Int) < (e260.Asks.length : Int))) with hb270 | hb270
        · replace hM := ct hb270 hM
          refine c_t hS rfl hb270 ?_
          refine wp_seq_k fun K49 hK49 => ?_
          refine r_list ?_
          refine wl rfl (ky (v := .pointer (some ⟨b267, 0 + 1, none⟩)) hS (y_fld hS rfl fl48_1) rfl rfl fun a hS => ?_)
          refine wl rfl (ky (v := v261) hS (y_load hS rfl ty46 0 rfl id (us := [v261]) rfl rfl (fun _ => rfl)) rfl rfl fun a hS => ?_)
          refine wl rfl (ky (v := .int .i64 (answers_.length : Int)) hS (y_move hS rfl) rfl rfl fun a hS => ?_)
          obtain ⟨e271, he271, hM⟩ := bd hM
          refine wl rfl (k_index (R := R_AskD) hS sl46 ty55 rfl rfl 0 rfl he271 rfl fun b272 o273 cs275 hr274 a hS => ?_)
          obtain rfl := hr274
          refine wl rfl (ky (v := .agg #[.bool e271.Cell, .bool e271.Pick, .int .i64 e271.N, .int .i64 e271.Else]) hS (y_loadc (k := 0) hS ty55 0 rfl rfl (fun _ h => h.elim) (us := [.bool e271.Cell, .bool e271.Pick, .int .i64 e271.N, .int .i64 e271.Else]) rfl rfl (fun h => by cases h)) rfl rfl fun a hS => ?_)
          refine wl rfl (k_alloc hS ze55 rfl fun b277 hnb279 a w hk hS => ?_)
          refine wl rfl (k_store hS rfl rfl (us := [.bool e271.Cell, .bool e271.Pick, .int .i64 e271.N, .int .i64 e271.Else]) rfl ty55 0 rfl rfl rfl (oc rfl (oc rfl (oc rfl (oc rfl on)))) fun w hk hS => ?_)
          refine wpList_nil ?_
          try simp only [Exit.then, Exit.inBlock, ↓reduceIte, Nat.reduceEqDiff]
          refine hK49 _ _ ?_
          refine wp_seq_k fun K50 hK50 => ?_
          refine r_list ?_
          refine wl rfl (ky (v := .pointer (some ⟨b277, 0 + 2, none⟩)) hS (y_fld hS rfl fl55_2) rfl rfl fun a hS => ?_)
          refine wl rfl (ky (v := .int .i64 e271.N) hS (y_load hS rfl ty3 0 rfl id (us := [.int .i64 e271.N]) rfl rfl (fun _ => rfl)) rfl rfl fun a hS => ?_)
          refine wl rfl (ky (v := .int .i64 e271.N) hS (y_assign hS rfl) rfl rfl fun a hS => ?_)
          refine wpList_nil ?_
          try simp only [Exit.then, Exit.inBlock, ↓reduceIte, Nat.reduceEqDiff]
          refine hK50 _ _ ?_
          refine seq_j (J := fun a w => ∃ (to312 : Int), St W0 No T 102 [(0, v1), (6, .pointer (some ⟨b238, 0, none⟩)), (10, .pointer (some ⟨b277, 0, none⟩)), (11, .int .i64 to312)] [.box b238 [.bool false, .string (ByteArray.mk #[]), .int .i64 0, .string (ByteArray.mk #[])] 97, .box b277 [.bool e271.Cell, .bool e271.Pick, .int .i64 e271.N, .int .i64 e271.Else] 55] [SlF R_RuleD v1 rules_, LvF] a w ∧ toy_Turn_j1 rules_ e271 to312 = some y) ?_ ?_
          · skip
            refine seq_j (J := fun a w => ∃ (g338 : Bool), St W0 No T 102 [(0, v1), (6, .pointer (some ⟨b238, 0, none⟩)), (10, .pointer (some ⟨b277, 0, none⟩)), (11, .int .i64 e271.N), (65, .bool g338)] [.box b238 [.bool false, .string (ByteArray.mk #[]), .int .i64 0, .string (ByteArray.mk #[])] 97, .box b277 [.bool e271.Cell, .bool e271.Pick, .int .i64 e271.N, .int .i64 e271.Else] 55] [SlF R_RuleD v1 rules_, LvF] a w ∧ toy_Turn_j2 rules_ e271 g338 = some y) ?_ ?_
            · skip
              refine r_list ?_
              refine wl rfl (ky (v := .pointer (some ⟨b277, 0 + 1, none⟩)) hS (y_fld hS rfl fl55_1) rfl rfl fun a hS => ?_)
              refine wl rfl (ky (v := .bool e271.Pick) hS (y_load hS rfl ty4 0 rfl id (us := [.bool e271.Pick]) rfl rfl (fun _ => rfl)) rfl rfl fun a hS => ?_)
              refine wl rfl (ky (v := .bool e271.Pick) hS (y_move hS rfl) rfl rfl fun a hS => ?_)
              rcases bool2 (e271.Pick) with hb340 | hb340
              · replace hM := ct hb340 hM
                refine wg hS rfl rfl rfl hb340 (ky (v := .int .i64 (answers_.length : Int)) hS (y_move hS rfl) rfl rfl fun a hS => ?_)
                refine wg hS rfl rfl rfl hb340 (ky (v := .bool (decide ((0 : Int) < (answers_.length : Int)))) hS (y_int hS rfl rfl rfl) rfl rfl fun a hS => ?_)
                refine wl rfl (ky (v := .bool (decide ((0 : Int) < (answers_.length : Int)))) hS (y_pickt hS rfl hb340 rfl) rfl rfl fun a hS => ?_)
                refine wl rfl (ky (v := .bool (decide ((0 : Int) < (answers_.length : Int)))) hS (y_move hS rfl) rfl rfl fun a hS => ?_)
                rcases bool2 (decide ((0 : Int) < (answers_.length : Int))) with hb341 | hb341
                · replace hM := ct hb341 hM
                  refine wg hS rfl rfl rfl hb341 (ky (v := v2) hS (y_move hS rfl) rfl rfl fun a hS => ?_)
                  refine wg hS rfl rfl rfl hb341 (ky (v := .int .i64 (answers_.length : Int)) hS (y_move hS rfl) rfl rfl fun a hS => ?_)
                  refine wg hS rfl rfl rfl hb341 (ky (v := .int .i64 (IntKind.i64.wrap ((answers_.length : Int) - 1))) hS (y_int hS rfl rfl rfl) rfl rfl fun a hS => ?_)
                  obtain ⟨e342, he342, hM⟩ := bd hM
                  refine wg hS rfl rfl rfl hb341 (k_index (R := Rep.str) hS sl100 ty9 rfl rfl 3 rfl he342 rfl fun b343 o344 cs346 hr345 a hS => ?_)
                  obtain rfl := hr345
                  refine wg hS rfl rfl rfl hb341 (ky (v := .string e342) hS (y_loadc (k := 0) hS ty9 0 rfl rfl (fun _ h => h.elim) (us := [.string e342]) rfl rfl (fun _ => rfl)) rfl rfl fun a hS => ?_)
                  obtain ⟨u348, hu348, hM⟩ := bd hM
                  refine wg hS rfl rfl rfl hb341 (k_call hS ci62 rfl rfl (toy_Value_c _ _ hS.dlt (hS.get 6 rfl) e342 _ hu348) fun _ w hR a hk hA => ?_)
                  have he := Eq.symm hR
                  subst he
                  have hS := hA [] (fun r hr => by cases hr) List.Pairwise.nil
                  refine wg hS rfl rfl rfl hb341 (ky (v := .int .i64 (Int.tmod u348 2)) hS (y_rem hS rfl rfl (by decide)) rfl rfl fun a hS => ?_)
                  refine wg hS rfl rfl rfl hb341 (ky (v := .bool ((Int.tmod u348 2 : Int) == 0)) hS (y_int hS rfl rfl rfl) rfl rfl fun a hS => ?_)
                  refine wl rfl (ky (v := .bool ((Int.tmod u348 2 : Int) == 0)) hS (y_pickt hS rfl hb341 rfl) rfl rfl fun a hS => ?_)
                  refine wpList_nil ?_
                  try simp only [Exit.then, Exit.inBlock, ↓reduceIte, Nat.reduceEqDiff]
                  exact ⟨((Int.tmod u348 2 : Int) == 0), (hS.meet [2, 0] (by decide) ⟨rfl, rfl, rfl, rfl, rfl, trivial⟩ ⟨rfl, rfl, trivial⟩ ⟨⟨5, rfl⟩, ⟨6, rfl⟩, trivial⟩), hM⟩
                · replace hM := cf hb341 hM
                  refine wn hS rfl rfl rfl hb341 rfl rfl fun a hS => ?_
                  refine wn hS rfl rfl rfl hb341 rfl rfl fun a hS => ?_
                  refine wn hS rfl rfl rfl hb341 rfl rfl fun a hS => ?_
                  refine wn hS rfl rfl rfl hb341 rfl rfl fun a hS => ?_
                  refine wn hS rfl rfl rfl hb341 rfl rfl fun a hS => ?_
                  refine wn hS rfl rfl rfl hb341 rfl rfl fun a hS => ?_
                  refine wn hS rfl rfl rfl hb341 rfl rfl fun a hS => ?_
                  refine wn hS rfl rfl rfl hb341 rfl rfl fun a hS => ?_
                  refine wl rfl (ky (v := .bool false) hS (y_pickf hS rfl hb341 rfl) rfl rfl fun a hS => ?_)
                  refine wpList_nil ?_
                  try simp only [Exit.then, Exit.inBlock, ↓reduceIte, Nat.reduceEqDiff]
                  exact ⟨false, (hS.meet [2, 0] (by decide) ⟨rfl, rfl, rfl, rfl, rfl, trivial⟩ ⟨rfl, rfl, trivial⟩ ⟨⟨4, rfl⟩, ⟨5, rfl⟩, trivial⟩), hM⟩
              · replace hM := cf hb340 hM
                refine wn hS rfl rfl rfl hb340 rfl rfl fun a hS => ?_
                refine wn hS rfl rfl rfl hb340 rfl rfl fun a hS => ?_
                refine wl rfl (ky (v := .bool false) hS (y_pickf hS rfl hb340 rfl) rfl rfl fun a hS => ?_)
                refine wl rfl (ky (v := .bool false) hS (y_move hS rfl) rfl rfl fun a hS => ?_)
                refine wn hS rfl rfl rfl rfl rfl rfl fun a hS => ?_
                refine wn hS rfl rfl rfl rfl rfl rfl fun a hS => ?_
                refine wn hS rfl rfl rfl rfl rfl rfl fun a hS => ?_
                refine wn hS rfl rfl rfl rfl rfl rfl fun a hS => ?_
                refine wn hS rfl rfl rfl rfl rfl rfl fun a hS => ?_
                refine wn hS rfl rfl rfl rfl rfl rfl fun a hS => ?_
                refine wn hS rfl rfl rfl rfl rfl rfl fun a hS => ?_
                refine wn hS rfl rfl rfl rfl rfl rfl fun a hS => ?_
                refine wl rfl (ky (v := .bool false) hS (y_pickf hS rfl rfl rfl) rfl rfl fun a hS => ?_)
                refine wpList_nil ?_
                try simp only [Exit.then, Exit.inBlock, ↓reduceIte, Nat.reduceEqDiff]
                exact ⟨false, (hS.meet [2, 0] (by decide) ⟨rfl, rfl, rfl, rfl, rfl, trivial⟩ ⟨rfl, rfl, trivial⟩ ⟨⟨4, rfl⟩, ⟨5, rfl⟩, trivial⟩), hM⟩
            · rintro a w ⟨g338, hS, hM⟩
              unfold toy_Turn_j2 at hM
              rcases bool2 (g338) with hb339 | hb339
              · replace hM := ct hb339 hM
                refine c_t hS rfl hb339 ?_
                refine r_list ?_
                refine wl rfl (ky (v := .pointer (some ⟨b277, 0 + 3, none⟩)) hS (y_fld hS rfl fl55_3) rfl rfl fun a hS => ?_)
                refine wl rfl (ky (v := .int .i64 e271.Else) hS (y_load hS rfl ty3 1 rfl id (us := [.int .i64 e271.Else]) rfl rfl (fun _ => rfl)) rfl rfl fun a hS => ?_)
                refine wl rfl (ky (v := .int .i64 e271.Else) hS (y_assign hS rfl) rfl rfl fun a hS => ?_)
                refine wpList_nil ?_
                try simp only [Exit.then, Exit.inBlock, ↓reduceIte, Nat.reduceEqDiff]
                exact ⟨e271.Else, (hS.meet [0, 1] (by decide) ⟨rfl, rfl, rfl, rfl, trivial⟩ ⟨rfl, rfl, trivial⟩ ⟨⟨0, rfl⟩, ⟨1, rfl⟩, trivial⟩), hM⟩
              · replace hM := cf hb339 hM
                refine c_f hS rfl hb339 ?_
                refine wp_skip ?_
                try simp only [Exit.then, Exit.inBlock, ↓reduceIte, Nat.reduceEqDiff]
                exact ⟨e271.N, (hS.meet [0, 1] (by decide) ⟨rfl, rfl, rfl, rfl, trivial⟩ ⟨rfl, rfl, trivial⟩ ⟨⟨0, rfl⟩, ⟨1, rfl⟩, trivial⟩), hM⟩
          · rintro a w ⟨to312, hS, hM⟩
            unfold toy_Turn_j1 at hM
            refine wp_seq_k fun K51 hK51 => ?_
            refine wp_seq_k fun K52 hK52 => ?_
            refine r_list ?_
            refine wl rfl (ky (v := .pointer (some ⟨b277, 0 + 0, none⟩)) hS (y_fld hS rfl fl55_0) rfl rfl fun a hS => ?_)
            refine wl rfl (ky (v := .bool e271.Cell) hS (y_load hS rfl ty4 1 rfl id (us := [.bool e271.Cell]) rfl rfl (fun _ => rfl)) rfl rfl fun a hS => ?_)
            refine wpList_nil ?_
            try simp only [Exit.then, Exit.inBlock, ↓reduceIte, Nat.reduceEqDiff]
            refine hK52 _ _ ?_
            rcases bool2 (e271.Cell) with hb313 | hb313
            · replace hM := ct hb313 hM
              refine c_t hS rfl hb313 ?_
              refine wp_seq_k fun K53 hK53 => ?_
              refine r_list ?_
              refine wl rfl (ky (v := .int .i64 to312) hS (y_move hS rfl) rfl rfl fun a hS => ?_)
              obtain ⟨u314, hu314, hM⟩ := bd hM
              refine wl rfl (k_call hS ci88 rfl rfl (key_Cell_c _ _ hS.dlt (hS.get 1 rfl) to312 _ hu314) fun _ w hR a hk hA => ?_)
              have he := Eq.symm hR
              subst he
              have hS := hA [] (fun r hr => by cases hr) List.Pairwise.nil
              refine wl rfl (ky (v := .agg #[.bool false, .string (ByteArray.mk #[]), .int .i64 u314.Kind, .string u314.Text]) hS (y_build (ps := [(2, .tmp 71)]) hS pl97 ze97 rfl (us := [[.int .i64 u314.Kind, .string u314.Text]]) ⟨rfl, trivial⟩ (ws := [.bool false, .string (ByteArray.mk #[]), .int .i64 u314.Kind, .string u314.Text]) rfl) rfl rfl fun a hS => ?_)
              refine wl rfl (k_store hS rfl rfl (us := [.bool false, .string (ByteArray.mk #[]), .int .i64 u314.Kind, .string u314.Text]) rfl ty97 0 rfl rfl rfl (oc rfl (oc rfl (oc rfl (oc rfl on)))) fun w hk hS => ?_)
              refine wpList_nil ?_
              try simp only [Exit.then, Exit.inBlock, ↓reduceIte, Nat.reduceEqDiff]
              refine hK53 _ _ ?_
              refine wp_ret ?_
              injection hM with hM
              subst hM
              try simp only [Exit.then, Exit.inBlock, ↓reduceIte, Nat.reduceEqDiff]
              refine ret_ok hS Tryd.results60 (res_cell hS rfl 0 rfl ty97 rfl (fun h => by cases h) res_nil) ?_
              exact rfl
            · replace hM := cf hb313 hM
              refine c_f hS rfl hb313 ?_
              refine wp_skip ?_
              try simp only [Exit.then, Exit.inBlock, ↓reduceIte, Nat.reduceEqDiff]
              refine hK51 _ _ ?_
              refine wp_seq_k fun K54 hK54 => ?_
              refine r_list ?_
              refine wl rfl (ky (v := v1) hS (y_move hS rfl) rfl rfl fun a hS => ?_)
              refine wl rfl (ky (v := .int .i64 to312) hS (y_move hS rfl) rfl rfl fun a hS => ?_)
              obtain ⟨u316, hu316, hM⟩ := bd hM
              refine wl rfl (k_call hS ci87 rfl rfl (key_Of_c _ _ hS.dlt (hS.get 1 rfl) rules_ to312 _ (hS.get 0 rfl) _ hu316) fun _ w hR a hk hA => ?_)
              have he := Eq.symm hR
              subst he
              have hS := hA [] (fun r hr => by cases hr) List.Pairwise.nil
              refine wl rfl (ky (v := .agg #[.bool false, .string (ByteArray.mk #[]), .int .i64 u316.Kind, .string u316.Text]) hS (y_build (ps := [(2, .tmp 75)]) hS pl97 ze97 rfl (us := [[.int .i64 u316.Kind, .string u316.Text]]) ⟨rfl, trivial⟩ (ws := [.bool false, .string (ByteArray.mk #[]), .int .i64 u316.Kind, .string u316.Text]) rfl) rfl rfl fun a hS => ?_)
              refine wl rfl (k_store hS rfl rfl (us := [.bool false, .string (ByteArray.mk #[]), .int .i64 u316.Kind, .string u316.Text]) rfl ty97 0 rfl rfl rfl (oc rfl (oc rfl (oc rfl (oc rfl on)))) fun w hk hS => ?_)
              refine wpList_nil ?_
              try simp only [Exit.then, Exit.inBlock, ↓reduceIte, Nat.reduceEqDiff]
              refine hK54 _ _ ?_
              refine wp_ret ?_
              injection hM with hM
              subst hM
              try simp only [Exit.then, Exit.inBlock, ↓reduceIte, Nat.reduceEqDiff]
              refine ret_ok hS Tryd.results60 (res_cell hS rfl 0 rfl ty97 rfl (fun h => by cases h) res_nil) ?_
              exact rfl
        · replace hM := cf hb270 hM
          refine c_f hS rfl hb270 ?_
          refine wp_skip ?_
          try simp only [Exit.then, Exit.inBlock, ↓reduceIte, Nat.reduceEqDiff]
          refine hK46 _ _ ?_
          refine wp_seq_k fun K55 hK55 => ?_
          refine r_list ?_
          refine wl rfl (ky (v := .pointer (some ⟨b267, 0 + 3, none⟩)) hS (y_fld hS rfl fl48_3) rfl rfl fun a hS => ?_)
          refine wl rfl (ky (v := .int .i64 e260.C) hS (y_load hS rfl ty3 0 rfl id (us := [.int .i64 e260.C]) rfl rfl (fun _ => rfl)) rfl rfl fun a hS => ?_)
          refine wl rfl (k_bslice (ps := [(0, .tmp 78)]) hS el39 ze3 (zl := [.int .i64 0]) (by kernel_rfl) rfl (us := [[.int .i64 e260.C]]) ⟨rfl, trivial⟩ (ws := [.int .i64 e260.C]) rfl rfl rfl rfl fun b350 a w hk hS => ?_)
          refine wl rfl (ky (v := .slice (some ⟨b350, 0, none⟩) 1 1) hS (y_assign hS rfl) rfl rfl fun a hS => ?_)
          refine wpList_nil ?_
          try simp only [Exit.then, Exit.inBlock, ↓reduceIte, Nat.reduceEqDiff]
          refine hK55 _ _ ?_
          refine seq_j (J := fun a w => ∃ (l403 : (List Int)) (v404 : Value) (cl405 : (List Value)), St W0 No T 102 [(6, .pointer (some ⟨b238, 0, none⟩)), (8, .pointer (some ⟨b267, 0, none⟩)), (12, v404)] [.own v404 3 (Rep.int .i64).size cl405, .box b238 [.bool false, .string (ByteArray.mk #[]), .int .i64 0, .string (ByteArray.mk #[])] 97, .box b267 [.bool e260.Ring, v261, .int .i64 e260.Final, .int .i64 e260.C] 48] [RowsF (Rep.int .i64) cl405 l403, SlF R_AskD v261 e260.Asks, LvF] a w ∧ toy_Turn_j3 e260 l403 = some y) ?_ ?_
          · skip
            refine wp_seq_k fun K66 hK66 => ?_
            refine r_list ?_
            refine wl rfl (ky (v := v2) hS (y_move hS rfl) rfl rfl fun a hS => ?_)
            refine wl rfl (ky (v := .pointer (some ⟨b267, 0 + 1, none⟩)) hS (y_fld hS rfl fl48_1) rfl rfl fun a hS => ?_)
            refine wl rfl (ky (v := v261) hS (y_load hS rfl ty46 1 rfl id (us := [v261]) rfl rfl (fun _ => rfl)) rfl rfl fun a hS => ?_)
            refine wl rfl (ky (v := .int .i64 (e260.Asks.length : Int)) hS (y_len (R := R_AskD) (xs := e260.Asks) hS sl46 rfl 0 rfl) rfl rfl fun a hS => ?_)
            obtain ⟨l411, hl411, hM⟩ := bd hM
            refine wl rfl (k_sub (R := Rep.str) (k1 := .i64) hS sl100 ty9 rfl (.inr ⟨rfl, rfl⟩) (.inl ⟨_, rfl, rfl⟩) 2 rfl hl411 rfl fun v412 a hS => ?_)
            refine wl rfl (ky (v := .int .i64 (l411.length : Int)) hS (y_len (R := Rep.str) (xs := l411) hS sl100 rfl 0 rfl) rfl rfl fun a hS => ?_)
            refine wl rfl (ky (v := .int .i64 0) hS (y_move hS rfl) rfl rfl fun a hS => ?_)
            refine wpList_nil ?_
            try simp only [Exit.then, Exit.inBlock, ↓reduceIte, Nat.reduceEqDiff]
            refine hK66 _ _ ?_
            refine wp_block ?_
            replace hS := hS.lit (R := (Rep.int .i64)) (us := [.int .i64 e260.C]) (xs := [e260.C]) 0 rfl (by decide) (RowsOk.one_ (R := (Rep.int .i64)) (x := e260.C) rfl) rfl rfl
            obtain ⟨r1, hl1, hMo1⟩ := bd hM
            refine wp_lp (fun s : (List Int) × Int => toy_Turn_l4 l411 s.1 s.2) (fun s a w => ∃ (l437 : (List Int)) (g441 : Int) (v438 : Value) (cl439 : (List Value)), (l437, g441) = s ∧ St W0 No T 102 [(6, .pointer (some ⟨b238, 0, none⟩)), (8, .pointer (some ⟨b267, 0, none⟩)), (12, v438), (84, v412), (85, .int .i64 (l411.length : Int)), (86, .int .i64 g441)] [.own v438 3 (Rep.int .i64).size cl439, .box b238 [.bool false, .string (ByteArray.mk #[]), .int .i64 0, .string (ByteArray.mk #[])] 97, .box b267 [.bool e260.Ring, v261, .int .i64 e260.Final, .int .i64 e260.C] 48] [RowsF (Rep.int .i64) cl439 l437, SlF Rep.str v412 l411, SlF R_AskD v261 e260.Asks, LvF] a w) hl1 ⟨([e260.C]), 0, (.slice (some ⟨b350, 0, none⟩) 1 1), ([.int .i64 e260.C]), rfl, (hS.meet [0, 2, 1] (by decide) ⟨rfl, rfl, rfl, rfl, rfl, rfl, trivial⟩ ⟨rfl, rfl, rfl, trivial⟩ ⟨⟨0, rfl⟩, ⟨1, rfl⟩, ⟨2, rfl⟩, ⟨6, rfl⟩, trivial⟩)⟩ ?_
            rintro s a w f1 ⟨l437, g441, v438, cl439, rfl, hS⟩ hM hf1
            have hM : toy_Turn_l4 l411 l437 g441 = some f1 := hM
            unfold toy_Turn_l4 at hM
            refine wp_seq_k fun K75 hK75 => ?_
            refine r_list ?_
            refine wl rfl (ky (v := .bool (decide ((g441 : Int) < (l411.length : Int)))) hS (y_int hS rfl rfl rfl) rfl rfl fun a hS => ?_)
            refine wpList_nil ?_
            try simp only [Exit.then, Exit.inBlock, ↓reduceIte, Nat.reduceEqDiff]
            refine hK75 _ _ ?_
            refine wp_seq_k fun K76 hK76 => ?_
            rcases bool2 (decide ((g441 : Int) < (l411.length : Int))) with hb462 | hb462
            · replace hM := ct hb462 hM
              refine c_t hS rfl hb462 ?_
              refine wp_skip ?_
              try simp only [Exit.then, Exit.inBlock, ↓reduceIte, Nat.reduceEqDiff]
              refine hK76 _ _ ?_
              refine wp_seq_k fun K77 hK77 => ?_
              refine wp_block ?_
              refine wp_seq_k fun K78 hK78 => ?_
              refine r_list ?_
              obtain ⟨e463, he463, hM⟩ := bd hM
              refine wl rfl (k_index (R := Rep.str) hS sl100 ty9 rfl rfl 1 rfl he463 rfl fun b464 o465 cs467 hr466 a hS => ?_)
              obtain rfl := hr466
              refine wl rfl (ky (v := .string e463) hS (y_loadc (k := 0) hS ty9 0 rfl rfl (fun _ h => h.elim) (us := [.string e463]) rfl rfl (fun _ => rfl)) rfl rfl fun a hS => ?_)
              refine wl rfl (ky (v := .string e463) hS (y_assign hS rfl) rfl rfl fun a hS => ?_)
              refine wpList_nil ?_
              try simp only [Exit.then, Exit.inBlock, ↓reduceIte, Nat.reduceEqDiff]
              refine hK78 _ _ ?_
              refine r_list ?_
              refine wl rfl (ky (v := v438) hS (y_move hS rfl) rfl rfl fun a hS => ?_)
              refine wl rfl (ky (v := .string e463) hS (y_move hS rfl) rfl rfl fun a hS => ?_)
              obtain ⟨u469, hu469, hM⟩ := bd hM
              refine wl rfl (k_call hS ci62 rfl rfl (toy_Value_c _ _ hS.dlt (hS.get 4 rfl) e463 _ hu469) fun _ w hR a hk hA => ?_)
              have he := Eq.symm hR
              subst he
              have hS := hA [] (fun r hr => by cases hr) List.Pairwise.nil
              refine wl rfl (k_bslice (ps := [(0, .tmp 92)]) hS el39 ze3 (zl := [.int .i64 0]) (by kernel_rfl) rfl (us := [[.int .i64 u469]]) ⟨rfl, trivial⟩ (ws := [.int .i64 u469]) rfl rfl rfl rfl fun b471 a w hk hS => ?_)
              replace hS := hS.lit (R := (Rep.int .i64)) (us := [.int .i64 u469]) (xs := [u469]) 0 rfl (by decide) (RowsOk.one_ (R := (Rep.int .i64)) (x := u469) rfl) rfl rfl
              replace hS := hS.freeze (R := (Rep.int .i64)) 0 rfl 0 rfl
              obtain ⟨hg473, hM⟩ := gd_some hM
              refine wl rfl (k_apps (R := (Rep.int .i64)) (xs := l437) (ys := [u469]) hS el39 (by decide) (by decide) rfl rfl 0 rfl 3 rfl 0 rfl hg473 rfl fun v474 cl475 a w hk hS => ?_)
              refine wl rfl (ky (v := v474) hS (y_assign hS rfl) rfl rfl fun a hS => ?_)
              refine wpList_nil ?_
              try simp only [Exit.then, Exit.inBlock, ↓reduceIte, Nat.reduceEqDiff]
              refine hK77 _ _ ?_
              refine r_list ?_
              refine wl rfl (ky (v := .int .i64 (IntKind.i64.wrap (g441 + 1))) hS (y_int hS rfl rfl rfl) rfl rfl fun a hS => ?_)
              refine wl rfl (ky (v := .int .i64 (IntKind.i64.wrap (g441 + 1))) hS (y_move hS rfl) rfl rfl fun a hS => ?_)
              refine wpList_nil ?_
              try simp only [Exit.then, Exit.inBlock, ↓reduceIte, Nat.reduceEqDiff]
              exact ⟨((l437 ++ ([u469])), IntKind.i64.wrap (g441 + 1)), (Option.some.inj hM).symm, (l437 ++ ([u469])), (IntKind.i64.wrap (g441 + 1)), v474, cl475, rfl, (hS.meet [0, 1, 2] (by decide) ⟨rfl, rfl, rfl, rfl, rfl, rfl, trivial⟩ ⟨rfl, rfl, rfl, trivial⟩ ⟨⟨0, rfl⟩, ⟨5, rfl⟩, ⟨6, rfl⟩, ⟨7, rfl⟩, trivial⟩)⟩
            · replace hM := cf hb462 hM
              refine c_f hS rfl hb462 ?_
              refine wp_exit ?_
              try simp only [Exit.then, Exit.inBlock, ↓reduceIte, Nat.reduceEqDiff]
              injection hM with hM
              subst hM
              have hr := hf1 _ rfl
              subst hr
              have hM : toy_Turn_j3 e260 l437 = some y := hMo1
              exact ⟨l437, v438, cl439, (hS.meet [0, 1, 2] (by decide) ⟨rfl, rfl, rfl, trivial⟩ ⟨rfl, rfl, rfl, trivial⟩ ⟨⟨0, rfl⟩, ⟨2, rfl⟩, ⟨3, rfl⟩, trivial⟩), hM⟩
          · rintro a w ⟨l403, v404, cl405, hS, hM⟩
            unfold toy_Turn_j3 at hM
            refine wp_seq_k fun K65 hK65 => ?_
            refine r_list ?_
            refine wl rfl (ky (v := .pointer (some ⟨b267, 0 + 2, none⟩)) hS (y_fld hS rfl fl48_2) rfl rfl fun a hS => ?_)
            refine wl rfl (ky (v := .int .i64 e260.Final) hS (y_load hS rfl ty3 2 rfl id (us := [.int .i64 e260.Final]) rfl rfl (fun _ => rfl)) rfl rfl fun a hS => ?_)
            refine wl rfl (ky (v := v404) hS (y_move hS rfl) rfl rfl fun a hS => ?_)
            have hL := hS
            replace hL := hL.freeze (R := (Rep.int .i64)) 0 rfl 0 rfl
            obtain ⟨u407, hu407, hM⟩ := bd hM
            refine wl rfl (k_call hS ci89 rfl rfl (toy_final_c _ _ hL.dlt e260.Final l403 _ (hL.get 0 rfl) _ hu407) fun _ w hR a hk hA => ?_)
            have he := Eq.symm hR
            subst he
            have hS := hA [] (fun r hr => by cases hr) List.Pairwise.nil
            obtain ⟨u409, hu409, hM⟩ := bd hM
            refine wl rfl (k_call hS ci51 rfl rfl (itoaM_c _ _ hS.dlt (hS.get 2 rfl) u407 _ hu409) fun _ w hR a hk hA => ?_)
            have he := Eq.symm hR
            subst he
            have hS := hA [] (fun r hr => by cases hr) List.Pairwise.nil
            refine wl rfl (ky (v := .agg #[.bool true, .string u409, .int .i64 0, .string (ByteArray.mk #[])]) hS (y_build (ps := [(0, .const (.bool true)), (1, .tmp 100)]) hS pl97 ze97 rfl (us := [[.bool true], [.string u409]]) ⟨rfl, ⟨rfl, trivial⟩⟩ (ws := [.bool true, .string u409, .int .i64 0, .string (ByteArray.mk #[])]) rfl) rfl rfl fun a hS => ?_)
            refine wl rfl (k_store hS rfl rfl (us := [.bool true, .string u409, .int .i64 0, .string (ByteArray.mk #[])]) rfl ty97 1 rfl rfl rfl (oc rfl (oc rfl (oc rfl (oc rfl on)))) fun w hk hS => ?_)
            refine wpList_nil ?_
            try simp only [Exit.then, Exit.inBlock, ↓reduceIte, Nat.reduceEqDiff]
            refine hK65 _ _ ?_
            refine wp_ret ?_
            injection hM with hM
            subst hM
            try simp only [Exit.then, Exit.inBlock, ↓reduceIte, Nat.reduceEqDiff]
            refine ret_ok hS Tryd.results60 (res_cell hS rfl 1 rfl ty97 rfl (fun h => by cases h) res_nil) ?_
            exact rfl

noncomputable def law24_awake_j1 (g186 : Bool) : Option Bool := some (g186)
noncomputable def law24_awake : Option Bool := (ref23_Of ([(RuleD.mk false ([(AskD.mk true false 0 0), (AskD.mk true false 1 0)]) 1 5)]) 0).bind fun u112 => (toy_Turn ([(RuleD.mk false ([(AskD.mk true false 0 0), (AskD.mk true false 1 0)]) 1 5)]) u112 ([(ByteArray.mk #[55])])).bind fun u116 => (ref23_Of ([(RuleD.mk false ([(AskD.mk true false 0 0), (AskD.mk true false 1 0)]) 1 5)]) 0).bind fun u121 => (toy_Turn ([(RuleD.mk false ([(AskD.mk true false 0 0), (AskD.mk true false 1 0)]) 1 5)]) u121 ([(ByteArray.mk #[55]), (ByteArray.mk #[120])])).bind fun u125 => (toy_Valid ([(RuleD.mk false ([(AskD.mk true false 0 0), (AskD.mk true false 1 0)]) 1 5)])).bind fun u201 => cond u201 (cond (!(u116.Done)) ((ref23_Cell 1).bind fun u205 => cond ((u116.Ask.Kind : Int) == u205.Kind && u116.Ask.Text.toList == u205.Text.toList) (cond u125.Done (cond (u125.Value.toList == (ByteArray.mk #[49, 50]).toList) ((toy_Value (ByteArray.mk #[57])).bind fun u210 => cond ((u210 : Int) == 9) ((toy_Value (ByteArray.mk #[48, 57])).bind fun u213 => law24_awake_j1 ((u213 : Int) == 0)) (law24_awake_j1 false)) (law24_awake_j1 false)) (law24_awake_j1 false)) (law24_awake_j1 false)) (law24_awake_j1 false)) (law24_awake_j1 false)
set_option maxRecDepth 100000 in
set_option maxHeartbeats 4000000 in
theorem law24_awake_c (T : Nat → Prop) (W0 : World) (hT : ∀ k, T k → k < W0.heap.size) (hLv : LvP T W0) (y : Bool) (hM : law24_awake = some y) : Rets Tryd.prog No 27 [] W0 (fun v w' => v = .bool y) := by
  refine enter (c := _) Tryd.func27 rfl T 49 Tryd.ntmps27 hT rfl fun a hS => ?_
  replace hS := hS.fact LvF (LvP.dn hLv)
  unfold law24_awake at hM
  refine wp_seq_k fun K5 hK5 => ?_
  refine r_list ?_
  refine wl rfl (ky (v := .bool false) hS (y_assign hS rfl) rfl rfl fun a hS => ?_)
  refine wpList_nil ?_
  try simp only [Exit.then, Exit.inBlock, ↓reduceIte, Nat.reduceEqDiff]
  refine hK5 _ _ ?_
  refine wp_seq_k fun K6 hK6 => ?_
  refine r_list ?_
  refine wl rfl (ky (v := .agg #[.bool true, .bool false, .int .i64 0, .int .i64 0]) hS (y_build (ps := [(0, .const (.bool true))]) hS pl55 ze55 rfl (us := [[.bool true]]) ⟨rfl, trivial⟩ (ws := [.bool true, .bool false, .int .i64 0, .int .i64 0]) rfl) rfl rfl fun a hS => ?_)
  refine wl rfl (ky (v := .agg #[.bool true, .bool false, .int .i64 1, .int .i64 0]) hS (y_build (ps := [(0, .const (.bool true)), (2, .const (.int .i64 1))]) hS pl55 ze55 rfl (us := [[.bool true], [.int .i64 1]]) ⟨rfl, ⟨rfl, trivial⟩⟩ (ws := [.bool true, .bool false, .int .i64 1, .int .i64 0]) rfl) rfl rfl fun a hS => ?_)
  refine wl rfl (k_bslice (ps := [(0, .tmp 4), (1, .tmp 5)]) hS el46 ze55 (zl := [.bool false, .bool false, .int .i64 0, .int .i64 0, .bool false, .bool false, .int .i64 0, .int .i64 0]) (by kernel_rfl) rfl (us := [[.bool true, .bool false, .int .i64 0, .int .i64 0], [.bool true, .bool false, .int .i64 1, .int .i64 0]]) ⟨rfl, ⟨rfl, trivial⟩⟩ (ws := [.bool true, .bool false, .int .i64 0, .int .i64 0, .bool true, .bool false, .int .i64 1, .int .i64 0]) rfl rfl rfl rfl fun b108 a w hk hS => ?_)
  replace hS := hS.lit (R := R_AskD) (us := [.bool true, .bool false, .int .i64 0, .int .i64 0, .bool true, .bool false, .int .i64 1, .int .i64 0]) (xs := [(AskD.mk true false 0 0), (AskD.mk true false 1 0)]) 0 rfl (by decide) ((RowsOk.one_ (R := R_AskD) (x := (AskD.mk true false 0 0)) rfl).append (RowsOk.one_ (R := R_AskD) (x := (AskD.mk true false 1 0)) rfl)) rfl rfl
  skip
  refine wl rfl (ky (v := .agg #[.bool false, (.slice (some ⟨b108, 0, none⟩) 2 2), .int .i64 1, .int .i64 5]) hS (y_build (ps := [(1, .tmp 6), (2, .const (.int .i64 1)), (3, .const (.int .i64 5))]) hS pl48 ze48 rfl (us := [[(.slice (some ⟨b108, 0, none⟩) 2 2)], [.int .i64 1], [.int .i64 5]]) ⟨(cells1 (own_one (hS.own _ (List.mem_of_getElem? (i := 0) rfl)).1)), ⟨rfl, ⟨rfl, trivial⟩⟩⟩ (ws := [.bool false, (.slice (some ⟨b108, 0, none⟩) 2 2), .int .i64 1, .int .i64 5]) rfl) rfl rfl fun a hS => ?_)
  refine wl rfl (k_bslice (ps := [(0, .tmp 7)]) hS el44 ze48 (zl := [.bool false, .slice none 0 0, .int .i64 0, .int .i64 0]) (by kernel_rfl) rfl (us := [[.bool false, (.slice (some ⟨b108, 0, none⟩) 2 2), .int .i64 1, .int .i64 5]]) ⟨rfl, trivial⟩ (ws := [.bool false, (.slice (some ⟨b108, 0, none⟩) 2 2), .int .i64 1, .int .i64 5]) rfl rfl rfl rfl fun b110 a w hk hS => ?_)
  refine wl rfl (ky (v := .slice (some ⟨b110, 0, none⟩) 1 1) hS (y_assign hS rfl) rfl rfl fun a hS => ?_)
  refine wpList_nil ?_
  try simp only [Exit.then, Exit.inBlock, ↓reduceIte, Nat.reduceEqDiff]
  refine hK6 _ _ ?_
  refine wp_seq_k fun K7 hK7 => ?_
  refine r_list ?_
  refine wl rfl (ky (v := .slice (some ⟨b110, 0, none⟩) 1 1) hS (y_move hS rfl) rfl rfl fun a hS => ?_)
  refine wl rfl (ky (v := .slice (some ⟨b110, 0, none⟩) 1 1) hS (y_move hS rfl) rfl rfl fun a hS => ?_)
  replace hS := hS.freeze (R := R_AskD) 1 rfl 0 rfl
  replace hS := hS.lit (R := R_RuleD) (us := [.bool false, (.slice (some ⟨b108, 0, none⟩) 2 2), .int .i64 1, .int .i64 5]) (xs := [(RuleD.mk false ([(AskD.mk true false 0 0), (AskD.mk true false 1 0)]) 1 5)]) 0 rfl (by decide) (RowsOk.one_ (R := R_RuleD) (x := (RuleD.mk false ([(AskD.mk true false 0 0), (AskD.mk true false 1 0)]) 1 5)) (⟨_, rfl, (hS.get 0 rfl)⟩)) rfl rfl
  have hL := hS
  replace hL := hL.freeze (R := R_RuleD) 0 rfl 0 rfl
  obtain ⟨u112, hu112, hM⟩ := bd hM
  refine wl rfl (k_call hS ci61 rfl rfl (ref23_Of_c _ _ hL.dlt (hL.get 4 rfl) ([(RuleD.mk false ([(AskD.mk true false 0 0), (AskD.mk true false 1 0)]) 1 5)]) 0 _ (hL.get 0 rfl) _ hu112) fun _ w hR a hk hA => ?_)
  have he := Eq.symm hR
  subst he
  have hS := hA [] (fun r hr => by cases hr) List.Pairwise.nil
  refine wl rfl (k_bslice (ps := [(0, .const (.string ⟨#[55]⟩))]) hS el100 ze9 (zl := [.string (ByteArray.mk #[])]) (by kernel_rfl) rfl (us := [[.string (ByteArray.mk #[55])]]) ⟨rfl, trivial⟩ (ws := [.string (ByteArray.mk #[55])]) rfl rfl rfl rfl fun b114 a w hk hS => ?_)
  replace hS := hS.lit (R := Rep.str) (us := [.string (ByteArray.mk #[55])]) (xs := [(ByteArray.mk #[55])]) 0 rfl (by decide) (RowsOk.one_ (R := Rep.str) (x := (ByteArray.mk #[55])) rfl) rfl rfl
  have hL := hS
  replace hL := hL.freeze (R := R_RuleD) 1 rfl 1 rfl
  replace hL := hL.freeze (R := Rep.str) 0 rfl 1 rfl
  obtain ⟨u116, hu116, hM⟩ := bd hM
  refine wl rfl (k_call hS ci60 rfl rfl (toy_Turn_c _ _ hL.dlt (hL.get 6 rfl) ([(RuleD.mk false ([(AskD.mk true false 0 0), (AskD.mk true false 1 0)]) 1 5)]) u112 ([(ByteArray.mk #[55])]) _ _ (hL.get 1 rfl) (hL.get 0 rfl) _ hu116) fun _ w hR a hk hA => ?_)
  have he := Eq.symm hR
  subst he
  have hS := hA [] (fun r hr => by cases hr) List.Pairwise.nil
  refine wl rfl (k_alloc hS ze97 rfl fun b118 hnb120 a w hk hS => ?_)
  refine wl rfl (k_store hS rfl rfl (us := [.bool u116.Done, .string u116.Value, .int .i64 u116.Ask.Kind, .string u116.Ask.Text]) rfl ty97 0 rfl rfl rfl (oc rfl (oc rfl (oc rfl (oc rfl on)))) fun w hk hS => ?_)
  refine wpList_nil ?_
  try simp only [Exit.then, Exit.inBlock, ↓reduceIte, Nat.reduceEqDiff]
  refine hK7 _ _ ?_
  refine wp_seq_k fun K8 hK8 => ?_
  refine r_list ?_
  refine wl rfl (ky (v := .slice (some ⟨b110, 0, none⟩) 1 1) hS (y_move hS rfl) rfl rfl fun a hS => ?_)
  refine wl rfl (ky (v := .slice (some ⟨b110, 0, none⟩) 1 1) hS (y_move hS rfl) rfl rfl fun a hS => ?_)
  have hL := hS
  replace hL := hL.freeze (R := R_RuleD) 2 rfl 1 rfl
  obtain ⟨u121, hu121, hM⟩ := bd hM
  refine wl rfl (k_call hS ci61 rfl rfl (ref23_Of_c _ _ hL.dlt (hL.get 5 rfl) ([(RuleD.mk false ([(AskD.mk true false 0 0), (AskD.mk true false 1 0)]) 1 5)]) 0 _ (hL.get 0 rfl) _ hu121) fun _ w hR a hk hA => ?_)
  have he := Eq.symm hR
  subst he
  have hS := hA [] (fun r hr => by cases hr) List.Pairwise.nil
  refine wl rfl (k_bslice (ps := [(0, .const (.string ⟨#[55]⟩)), (1, .const (.string ⟨#[120]⟩))]) hS el100 ze9 (zl := [.string (ByteArray.mk #[]), .string (ByteArray.mk #[])]) (by kernel_rfl) rfl (us := [[.string (ByteArray.mk #[55])], [.string (ByteArray.mk #[120])]]) ⟨rfl, ⟨rfl, trivial⟩⟩ (ws := [.string (ByteArray.mk #[55]), .string (ByteArray.mk #[120])]) rfl rfl rfl rfl fun b123 a w hk hS => ?_)
  replace hS := hS.lit (R := Rep.str) (us := [.string (ByteArray.mk #[55]), .string (ByteArray.mk #[120])]) (xs := [(ByteArray.mk #[55]), (ByteArray.mk #[120])]) 0 rfl (by decide) ((RowsOk.one_ (R := Rep.str) (x := (ByteArray.mk #[55])) rfl).append (RowsOk.one_ (R := Rep.str) (x := (ByteArray.mk #[120])) rfl)) rfl rfl
  have hL := hS
  replace hL := hL.freeze (R := R_RuleD) 3 rfl 2 rfl
  replace hL := hL.freeze (R := Rep.str) 0 rfl 1 rfl
  obtain ⟨u125, hu125, hM⟩ := bd hM
  refine wl rfl (k_call hS ci60 rfl rfl (toy_Turn_c _ _ hL.dlt (hL.get 7 rfl) ([(RuleD.mk false ([(AskD.mk true false 0 0), (AskD.mk true false 1 0)]) 1 5)]) u121 ([(ByteArray.mk #[55]), (ByteArray.mk #[120])]) _ _ (hL.get 1 rfl) (hL.get 0 rfl) _ hu125) fun _ w hR a hk hA => ?_)
  have he := Eq.symm hR
  subst he
  have hS := hA [] (fun r hr => by cases hr) List.Pairwise.nil
  refine wl rfl (k_alloc hS ze97 rfl fun b127 hnb129 a w hk hS => ?_)
  refine wl rfl (k_store hS rfl rfl (us := [.bool u125.Done, .string u125.Value, .int .i64 u125.Ask.Kind, .string u125.Ask.Text]) rfl ty97 0 rfl rfl rfl (oc rfl (oc rfl (oc rfl (oc rfl on)))) fun w hk hS => ?_)
  refine wpList_nil ?_
  try simp only [Exit.then, Exit.inBlock, ↓reduceIte, Nat.reduceEqDiff]
  refine hK8 _ _ ?_
  refine seq_j (J := fun a w => ∃ (g186 : Bool), St W0 No T 49 [(0, .bool g186)] [] [LvF] a w ∧ law24_awake_j1 g186 = some y) ?_ ?_
  · skip
    refine draws [] hS mixed rfl (fun c a d v w h => by cases d <;> exact h) fun w hQ hS => ?_
    refine dy 0 (v := .slice (some ⟨b110, 0, none⟩) 1 1) rfl (by kernel_rfl) (by kernel_rfl) (by kernel_rfl) rfl hQ hS (y_move hS rfl) rfl rfl rfl fun a hS => ?_
    have hL := hS
    replace hL := hL.freeze (R := R_RuleD) 4 rfl 2 rfl
    obtain ⟨u201, hu201, hM⟩ := bd hM
    refine wpE_one (i := 1) rfl (by kernel_rfl) rfl (k_call hS ci30 rfl rfl (toy_Valid_c _ _ hL.dlt ([(RuleD.mk false ([(AskD.mk true false 0 0), (AskD.mk true false 1 0)]) 1 5)]) _ (hL.get 0 rfl) _ hu201) fun _ w hR a hk hA => ⟨stN (hk), ?_⟩)
    have he := Eq.symm hR
    subst he
    have hS := hA [] (fun r hr => by cases hr) List.Pairwise.nil
    refine dy 2 (v := .bool u201) rfl (by kernel_rfl) (by kernel_rfl) (by kernel_rfl) rfl hQ hS (y_move hS rfl) rfl rfl rfl fun a hS => ?_
    rcases bool2 (u201) with hb203 | hb203
    · replace hM := ct hb203 hM
      refine dyg 3 (v := .pointer (some ⟨b118, 0 + 0, none⟩)) rfl (by kernel_rfl) (by kernel_rfl) (by kernel_rfl) rfl hQ hS (y_fld hS rfl fl97_0) rfl rfl rfl hb203 rfl rfl fun a hS => ?_
      refine dyg (l := []) 4 (v := .bool u116.Done) rfl (by kernel_rfl) (by kernel_rfl) (by kernel_rfl) (by kernel_rfl) hQ hS (y_load hS rfl ty4 2 rfl eo_nil (us := [.bool u116.Done]) rfl rfl (fun _ => rfl)) rfl rfl rfl hb203 rfl rfl fun a hS => ?_
      refine dyg 5 (v := .bool (!(u116.Done))) rfl (by kernel_rfl) (by kernel_rfl) (by kernel_rfl) rfl hQ hS (y_not hS rfl) rfl rfl rfl hb203 rfl rfl fun a hS => ?_
      refine dy 6 (v := .bool (!(u116.Done))) rfl (by kernel_rfl) (by kernel_rfl) (by kernel_rfl) rfl hQ hS (y_pickt hS rfl hb203 rfl) rfl rfl rfl fun a hS => ?_
      refine dy 7 (v := .bool (!(u116.Done))) rfl (by kernel_rfl) (by kernel_rfl) (by kernel_rfl) rfl hQ hS (y_move hS rfl) rfl rfl rfl fun a hS => ?_
      rcases bool2 (!(u116.Done)) with hb204 | hb204
      · replace hM := ct hb204 hM
        refine dyg 8 (v := .pointer (some ⟨b118, 0 + 2, none⟩)) rfl (by kernel_rfl) (by kernel_rfl) (by kernel_rfl) rfl hQ hS (y_fld hS rfl fl97_2) rfl rfl rfl hb204 rfl rfl fun a hS => ?_
        refine dyg (l := []) 9 (v := .agg #[.int .i64 u116.Ask.Kind, .string u116.Ask.Text]) rfl (by kernel_rfl) (by kernel_rfl) (by kernel_rfl) (by kernel_rfl) hQ hS (y_load hS rfl ty26 2 rfl eo_nil (us := [.int .i64 u116.Ask.Kind, .string u116.Ask.Text]) rfl rfl (fun h => by cases h)) rfl rfl rfl hb204 rfl rfl fun a hS => ?_
        obtain ⟨u205, hu205, hM⟩ := bd hM
        refine wpE_oneg (i := 10) rfl (by kernel_rfl) hS rfl rfl rfl hb204 (k_call hS ci14 rfl rfl (ref23_Cell_c _ _ hS.dlt (hS.get 5 rfl) 1 _ hu205) fun _ w hR a hk hA => ⟨stN (hk), ?_⟩)
        have he := Eq.symm hR
        subst he
        have hS := hA [] (fun r hr => by cases hr) List.Pairwise.nil
        refine dyg 11 (v := .bool ((u116.Ask.Kind : Int) == u205.Kind && u116.Ask.Text.toList == u205.Text.toList)) rfl (by kernel_rfl) (by kernel_rfl) (by kernel_rfl) rfl hQ hS (eq26 hS rfl rfl) rfl rfl rfl hb204 rfl rfl fun a hS => ?_
        refine dy 12 (v := .bool ((u116.Ask.Kind : Int) == u205.Kind && u116.Ask.Text.toList == u205.Text.toList)) rfl (by kernel_rfl) (by kernel_rfl) (by kernel_rfl) rfl hQ hS (y_pickt hS rfl hb204 rfl) rfl rfl rfl fun a hS => ?_
        refine dy 13 (v := .bool ((u116.Ask.Kind : Int) == u205.Kind && u116.Ask.Text.toList == u205.Text.toList)) rfl (by kernel_rfl) (by kernel_rfl) (by kernel_rfl) rfl hQ hS (y_move hS rfl) rfl rfl rfl fun a hS => ?_
        rcases bool2 ((u116.Ask.Kind : Int) == u205.Kind && u116.Ask.Text.toList == u205.Text.toList) with hb207 | hb207
        · replace hM := ct hb207 hM
          refine dyg 14 (v := .pointer (some ⟨b127, 0 + 0, none⟩)) rfl (by kernel_rfl) (by kernel_rfl) (by kernel_rfl) rfl hQ hS (y_fld hS rfl fl97_0) rfl rfl rfl hb207 rfl rfl fun a hS => ?_
          refine dyg (l := []) 15 (v := .bool u125.Done) rfl (by kernel_rfl) (by kernel_rfl) (by kernel_rfl) (by kernel_rfl) hQ hS (y_load hS rfl ty4 0 rfl eo_nil (us := [.bool u125.Done]) rfl rfl (fun _ => rfl)) rfl rfl rfl hb207 rfl rfl fun a hS => ?_
          refine dy 16 (v := .bool u125.Done) rfl (by kernel_rfl) (by kernel_rfl) (by kernel_rfl) rfl hQ hS (y_pickt hS rfl hb207 rfl) rfl rfl rfl fun a hS => ?_
          refine dy 17 (v := .bool u125.Done) rfl (by kernel_rfl) (by kernel_rfl) (by kernel_rfl) rfl hQ hS (y_move hS rfl) rfl rfl rfl fun a hS => ?_
          rcases bool2 (u125.Done) with hb208 | hb208
          · replace hM := ct hb208 hM
            refine dyg 18 (v := .pointer (some ⟨b127, 0 + 1, none⟩)) rfl (by kernel_rfl) (by kernel_rfl) (by kernel_rfl) rfl hQ hS (y_fld hS rfl fl97_1) rfl rfl rfl hb208 rfl rfl fun a hS => ?_
            refine dyg (l := []) 19 (v := .string u125.Value) rfl (by kernel_rfl) (by kernel_rfl) (by kernel_rfl) (by kernel_rfl) hQ hS (y_load hS rfl ty9 0 rfl eo_nil (us := [.string u125.Value]) rfl rfl (fun _ => rfl)) rfl rfl rfl hb208 rfl rfl fun a hS => ?_
            refine dyg 20 (v := .bool (u125.Value.toList == (ByteArray.mk #[49, 50]).toList)) rfl (by kernel_rfl) (by kernel_rfl) (by kernel_rfl) rfl hQ hS (y_str hS rfl rfl rfl) rfl rfl rfl hb208 rfl rfl fun a hS => ?_
            refine dy 21 (v := .bool (u125.Value.toList == (ByteArray.mk #[49, 50]).toList)) rfl (by kernel_rfl) (by kernel_rfl) (by kernel_rfl) rfl hQ hS (y_pickt hS rfl hb208 rfl) rfl rfl rfl fun a hS => ?_
            refine dy 22 (v := .bool (u125.Value.toList == (ByteArray.mk #[49, 50]).toList)) rfl (by kernel_rfl) (by kernel_rfl) (by kernel_rfl) rfl hQ hS (y_move hS rfl) rfl rfl rfl fun a hS => ?_
            rcases bool2 (u125.Value.toList == (ByteArray.mk #[49, 50]).toList) with hb209 | hb209
            · replace hM := ct hb209 hM
              obtain ⟨u210, hu210, hM⟩ := bd hM
              refine wpE_oneg (i := 23) rfl (by kernel_rfl) hS rfl rfl rfl hb209 (k_call hS ci62 rfl rfl (toy_Value_c _ _ hS.dlt (hS.get 5 rfl) (ByteArray.mk #[57]) _ hu210) fun _ w hR a hk hA => ⟨stN (hk), ?_⟩)
              have he := Eq.symm hR
              subst he
              have hS := hA [] (fun r hr => by cases hr) List.Pairwise.nil
              refine dyg 24 (v := .bool ((u210 : Int) == 9)) rfl (by kernel_rfl) (by kernel_rfl) (by kernel_rfl) rfl hQ hS (y_int hS rfl rfl rfl) rfl rfl rfl hb209 rfl rfl fun a hS => ?_
              refine dy 25 (v := .bool ((u210 : Int) == 9)) rfl (by kernel_rfl) (by kernel_rfl) (by kernel_rfl) rfl hQ hS (y_pickt hS rfl hb209 rfl) rfl rfl rfl fun a hS => ?_
              refine dy 26 (v := .bool ((u210 : Int) == 9)) rfl (by kernel_rfl) (by kernel_rfl) (by kernel_rfl) rfl hQ hS (y_move hS rfl) rfl rfl rfl fun a hS => ?_
              rcases bool2 ((u210 : Int) == 9) with hb212 | hb212
              · replace hM := ct hb212 hM
                obtain ⟨u213, hu213, hM⟩ := bd hM
                refine wpE_oneg (i := 27) rfl (by kernel_rfl) hS rfl rfl rfl hb212 (k_call hS ci62 rfl rfl (toy_Value_c _ _ hS.dlt (hS.get 5 rfl) (ByteArray.mk #[48, 57]) _ hu213) fun _ w hR a hk hA => ⟨stN (hk), ?_⟩)
                have he := Eq.symm hR
                subst he
                have hS := hA [] (fun r hr => by cases hr) List.Pairwise.nil
                refine dyg 28 (v := .bool ((u213 : Int) == 0)) rfl (by kernel_rfl) (by kernel_rfl) (by kernel_rfl) rfl hQ hS (y_int hS rfl rfl rfl) rfl rfl rfl hb212 rfl rfl fun a hS => ?_
                refine dy 29 (v := .bool ((u213 : Int) == 0)) rfl (by kernel_rfl) (by kernel_rfl) (by kernel_rfl) rfl hQ hS (y_pickt hS rfl hb212 rfl) rfl rfl rfl fun a hS => ?_
                refine dy 30 (v := .bool ((u213 : Int) == 0)) rfl (by kernel_rfl) (by kernel_rfl) (by kernel_rfl) rfl hQ hS (y_assign hS rfl) rfl rfl rfl fun a hS => ?_
                refine wpE_done (by kernel_rfl) ?_ _
                try simp only [Exit.then, Exit.inBlock, ↓reduceIte, Nat.reduceEqDiff]
                exact ⟨((u213 : Int) == 0), (hS.meet [] (by decide) ⟨rfl, trivial⟩ trivial ⟨⟨5, rfl⟩, trivial⟩), hM⟩
              · replace hM := cf hb212 hM
                refine dyn 27 rfl (by kernel_rfl) (by kernel_rfl) (by kernel_rfl) hQ hS rfl rfl rfl hb212 rfl rfl fun a hS => ?_
                refine dyn 28 rfl (by kernel_rfl) (by kernel_rfl) (by kernel_rfl) hQ hS rfl rfl rfl hb212 rfl rfl fun a hS => ?_
                refine dy 29 (v := .bool false) rfl (by kernel_rfl) (by kernel_rfl) (by kernel_rfl) rfl hQ hS (y_pickf hS rfl hb212 rfl) rfl rfl rfl fun a hS => ?_
                refine dy 30 (v := .bool false) rfl (by kernel_rfl) (by kernel_rfl) (by kernel_rfl) rfl hQ hS (y_assign hS rfl) rfl rfl rfl fun a hS => ?_
                refine wpE_done (by kernel_rfl) ?_ _
                try simp only [Exit.then, Exit.inBlock, ↓reduceIte, Nat.reduceEqDiff]
                exact ⟨false, (hS.meet [] (by decide) ⟨rfl, trivial⟩ trivial ⟨⟨5, rfl⟩, trivial⟩), hM⟩
            · replace hM := cf hb209 hM
              refine dyn 23 rfl (by kernel_rfl) (by kernel_rfl) (by kernel_rfl) hQ hS rfl rfl rfl hb209 rfl rfl fun a hS => ?_
              refine dyn 24 rfl (by kernel_rfl) (by kernel_rfl) (by kernel_rfl) hQ hS rfl rfl rfl hb209 rfl rfl fun a hS => ?_
              refine dy 25 (v := .bool false) rfl (by kernel_rfl) (by kernel_rfl) (by kernel_rfl) rfl hQ hS (y_pickf hS rfl hb209 rfl) rfl rfl rfl fun a hS => ?_
              refine dy 26 (v := .bool false) rfl (by kernel_rfl) (by kernel_rfl) (by kernel_rfl) rfl hQ hS (y_move hS rfl) rfl rfl rfl fun a hS => ?_
              refine dyn 27 rfl (by kernel_rfl) (by kernel_rfl) (by kernel_rfl) hQ hS rfl rfl rfl rfl rfl rfl fun a hS => ?_
              refine dyn 28 rfl (by kernel_rfl) (by kernel_rfl) (by kernel_rfl) hQ hS rfl rfl rfl rfl rfl rfl fun a hS => ?_
              refine dy 29 (v := .bool false) rfl (by kernel_rfl) (by kernel_rfl) (by kernel_rfl) rfl hQ hS (y_pickf hS rfl rfl rfl) rfl rfl rfl fun a hS => ?_
              refine dy 30 (v := .bool false) rfl (by kernel_rfl) (by kernel_rfl) (by kernel_rfl) rfl hQ hS (y_assign hS rfl) rfl rfl rfl fun a hS => ?_
              refine wpE_done (by kernel_rfl) ?_ _
              try simp only [Exit.then, Exit.inBlock, ↓reduceIte, Nat.reduceEqDiff]
              exact ⟨false, (hS.meet [] (by decide) ⟨rfl, trivial⟩ trivial ⟨⟨5, rfl⟩, trivial⟩), hM⟩
          · replace hM := cf hb208 hM
            refine dyn 18 rfl (by kernel_rfl) (by kernel_rfl) (by kernel_rfl) hQ hS rfl rfl rfl hb208 rfl rfl fun a hS => ?_
            refine dyn 19 rfl (by kernel_rfl) (by kernel_rfl) (by kernel_rfl) hQ hS rfl rfl rfl hb208 rfl rfl fun a hS => ?_
            refine dyn 20 rfl (by kernel_rfl) (by kernel_rfl) (by kernel_rfl) hQ hS rfl rfl rfl hb208 rfl rfl fun a hS => ?_
            refine dy 21 (v := .bool false) rfl (by kernel_rfl) (by kernel_rfl) (by kernel_rfl) rfl hQ hS (y_pickf hS rfl hb208 rfl) rfl rfl rfl fun a hS => ?_
            refine dy 22 (v := .bool false) rfl (by kernel_rfl) (by kernel_rfl) (by kernel_rfl) rfl hQ hS (y_move hS rfl) rfl rfl rfl fun a hS => ?_
            refine dyn 23 rfl (by kernel_rfl) (by kernel_rfl) (by kernel_rfl) hQ hS rfl rfl rfl rfl rfl rfl fun a hS => ?_
            refine dyn 24 rfl (by kernel_rfl) (by kernel_rfl) (by kernel_rfl) hQ hS rfl rfl rfl rfl rfl rfl fun a hS => ?_
            refine dy 25 (v := .bool false) rfl (by kernel_rfl) (by kernel_rfl) (by kernel_rfl) rfl hQ hS (y_pickf hS rfl rfl rfl) rfl rfl rfl fun a hS => ?_
            refine dy 26 (v := .bool false) rfl (by kernel_rfl) (by kernel_rfl) (by kernel_rfl) rfl hQ hS (y_move hS rfl) rfl rfl rfl fun a hS => ?_
            refine dyn 27 rfl (by kernel_rfl) (by kernel_rfl) (by kernel_rfl) hQ hS rfl rfl rfl rfl rfl rfl fun a hS => ?_
            refine dyn 28 rfl (by kernel_rfl) (by kernel_rfl) (by kernel_rfl) hQ hS rfl rfl rfl rfl rfl rfl fun a hS => ?_
            refine dy 29 (v := .bool false) rfl (by kernel_rfl) (by kernel_rfl) (by kernel_rfl) rfl hQ hS (y_pickf hS rfl rfl rfl) rfl rfl rfl fun a hS => ?_
            refine dy 30 (v := .bool false) rfl (by kernel_rfl) (by kernel_rfl) (by kernel_rfl) rfl hQ hS (y_assign hS rfl) rfl rfl rfl fun a hS => ?_
            refine wpE_done (by kernel_rfl) ?_ _
            try simp only [Exit.then, Exit.inBlock, ↓reduceIte, Nat.reduceEqDiff]
            exact ⟨false, (hS.meet [] (by decide) ⟨rfl, trivial⟩ trivial ⟨⟨5, rfl⟩, trivial⟩), hM⟩
        · replace hM := cf hb207 hM
          refine dyn 14 rfl (by kernel_rfl) (by kernel_rfl) (by kernel_rfl) hQ hS rfl rfl rfl hb207 rfl rfl fun a hS => ?_
          refine dyn 15 rfl (by kernel_rfl) (by kernel_rfl) (by kernel_rfl) hQ hS rfl rfl rfl hb207 rfl rfl fun a hS => ?_
          refine dy 16 (v := .bool false) rfl (by kernel_rfl) (by kernel_rfl) (by kernel_rfl) rfl hQ hS (y_pickf hS rfl hb207 rfl) rfl rfl rfl fun a hS => ?_
          refine dy 17 (v := .bool false) rfl (by kernel_rfl) (by kernel_rfl) (by kernel_rfl) rfl hQ hS (y_move hS rfl) rfl rfl rfl fun a hS => ?_
          refine dyn 18 rfl (by kernel_rfl) (by kernel_rfl) (by kernel_rfl) hQ hS rfl rfl rfl rfl rfl rfl fun a hS => ?_
          refine dyn 19 rfl (by kernel_rfl) (by kernel_rfl) (by kernel_rfl) hQ hS rfl rfl rfl rfl rfl rfl fun a hS => ?_
          refine dyn 20 rfl (by kernel_rfl) (by kernel_rfl) (by kernel_rfl) hQ hS rfl rfl rfl rfl rfl rfl fun a hS => ?_
          refine dy 21 (v := .bool false) rfl (by kernel_rfl) (by kernel_rfl) (by kernel_rfl) rfl hQ hS (y_pickf hS rfl rfl rfl) rfl rfl rfl fun a hS => ?_
          refine dy 22 (v := .bool false) rfl (by kernel_rfl) (by kernel_rfl) (by kernel_rfl) rfl hQ hS (y_move hS rfl) rfl rfl rfl fun a hS => ?_
          refine dyn 23 rfl (by kernel_rfl) (by kernel_rfl) (by kernel_rfl) hQ hS rfl rfl rfl rfl rfl rfl fun a hS => ?_
          refine dyn 24 rfl (by kernel_rfl) (by kernel_rfl) (by kernel_rfl) hQ hS rfl rfl rfl rfl rfl rfl fun a hS => ?_
          refine dy 25 (v := .bool false) rfl (by kernel_rfl) (by kernel_rfl) (by kernel_rfl) rfl hQ hS (y_pickf hS rfl rfl rfl) rfl rfl rfl fun a hS => ?_
          refine dy 26 (v := .bool false) rfl (by kernel_rfl) (by kernel_rfl) (by kernel_rfl) rfl hQ hS (y_move hS rfl) rfl rfl rfl fun a hS => ?_
          refine dyn 27 rfl (by kernel_rfl) (by kernel_rfl) (by kernel_rfl) hQ hS rfl rfl rfl rfl rfl rfl fun a hS => ?_
          refine dyn 28 rfl (by kernel_rfl) (by kernel_rfl) (by kernel_rfl) hQ hS rfl rfl rfl rfl rfl rfl fun a hS => ?_
          refine dy 29 (v := .bool false) rfl (by kernel_rfl) (by kernel_rfl) (by kernel_rfl) rfl hQ hS (y_pickf hS rfl rfl rfl) rfl rfl rfl fun a hS => ?_
          refine dy 30 (v := .bool false) rfl (by kernel_rfl) (by kernel_rfl) (by kernel_rfl) rfl hQ hS (y_assign hS rfl) rfl rfl rfl fun a hS => ?_
          refine wpE_done (by kernel_rfl) ?_ _
          try simp only [Exit.then, Exit.inBlock, ↓reduceIte, Nat.reduceEqDiff]
          exact ⟨false, (hS.meet [] (by decide) ⟨rfl, trivial⟩ trivial ⟨⟨5, rfl⟩, trivial⟩), hM⟩
      · replace hM := cf hb204 hM
        refine dyn 8 rfl (by kernel_rfl) (by kernel_rfl) (by kernel_rfl) hQ hS rfl rfl rfl hb204 rfl rfl fun a hS => ?_
        refine dyn 9 rfl (by kernel_rfl) (by kernel_rfl) (by kernel_rfl) hQ hS rfl rfl rfl hb204 rfl rfl fun a hS => ?_
        refine dyn 10 rfl (by kernel_rfl) (by kernel_rfl) (by kernel_rfl) hQ hS rfl rfl rfl hb204 rfl rfl fun a hS => ?_
        refine dyn 11 rfl (by kernel_rfl) (by kernel_rfl) (by kernel_rfl) hQ hS rfl rfl rfl hb204 rfl rfl fun a hS => ?_
        refine dy 12 (v := .bool false) rfl (by kernel_rfl) (by kernel_rfl) (by kernel_rfl) rfl hQ hS (y_pickf hS rfl hb204 rfl) rfl rfl rfl fun a hS => ?_
        refine dy 13 (v := .bool false) rfl (by kernel_rfl) (by kernel_rfl) (by kernel_rfl) rfl hQ hS (y_move hS rfl) rfl rfl rfl fun a hS => ?_
        refine dyn 14 rfl (by kernel_rfl) (by kernel_rfl) (by kernel_rfl) hQ hS rfl rfl rfl rfl rfl rfl fun a hS => ?_
        refine dyn 15 rfl (by kernel_rfl) (by kernel_rfl) (by kernel_rfl) hQ hS rfl rfl rfl rfl rfl rfl fun a hS => ?_
        refine dy 16 (v := .bool false) rfl (by kernel_rfl) (by kernel_rfl) (by kernel_rfl) rfl hQ hS (y_pickf hS rfl rfl rfl) rfl rfl rfl fun a hS => ?_
        refine dy 17 (v := .bool false) rfl (by kernel_rfl) (by kernel_rfl) (by kernel_rfl) rfl hQ hS (y_move hS rfl) rfl rfl rfl fun a hS => ?_
        refine dyn 18 rfl (by kernel_rfl) (by kernel_rfl) (by kernel_rfl) hQ hS rfl rfl rfl rfl rfl rfl fun a hS => ?_
        refine dyn 19 rfl (by kernel_rfl) (by kernel_rfl) (by kernel_rfl) hQ hS rfl rfl rfl rfl rfl rfl fun a hS => ?_
        refine dyn 20 rfl (by kernel_rfl) (by kernel_rfl) (by kernel_rfl) hQ hS rfl rfl rfl rfl rfl rfl fun a hS => ?_
        refine dy 21 (v := .bool false) rfl (by kernel_rfl) (by kernel_rfl) (by kernel_rfl) rfl hQ hS (y_pickf hS rfl rfl rfl) rfl rfl rfl fun a hS => ?_
        refine dy 22 (v := .bool false) rfl (by kernel_rfl) (by kernel_rfl) (by kernel_rfl) rfl hQ hS (y_move hS rfl) rfl rfl rfl fun a hS => ?_
        refine dyn 23 rfl (by kernel_rfl) (by kernel_rfl) (by kernel_rfl) hQ hS rfl rfl rfl rfl rfl rfl fun a hS => ?_
        refine dyn 24 rfl (by kernel_rfl) (by kernel_rfl) (by kernel_rfl) hQ hS rfl rfl rfl rfl rfl rfl fun a hS => ?_
        refine dy 25 (v := .bool false) rfl (by kernel_rfl) (by kernel_rfl) (by kernel_rfl) rfl hQ hS (y_pickf hS rfl rfl rfl) rfl rfl rfl fun a hS => ?_
        refine dy 26 (v := .bool false) rfl (by kernel_rfl) (by kernel_rfl) (by kernel_rfl) rfl hQ hS (y_move hS rfl) rfl rfl rfl fun a hS => ?_
        refine dyn 27 rfl (by kernel_rfl) (by kernel_rfl) (by kernel_rfl) hQ hS rfl rfl rfl rfl rfl rfl fun a hS => ?_
        refine dyn 28 rfl (by kernel_rfl) (by kernel_rfl) (by kernel_rfl) hQ hS rfl rfl rfl rfl rfl rfl fun a hS => ?_
        refine dy 29 (v := .bool false) rfl (by kernel_rfl) (by kernel_rfl) (by kernel_rfl) rfl hQ hS (y_pickf hS rfl rfl rfl) rfl rfl rfl fun a hS => ?_
        refine dy 30 (v := .bool false) rfl (by kernel_rfl) (by kernel_rfl) (by kernel_rfl) rfl hQ hS (y_assign hS rfl) rfl rfl rfl fun a hS => ?_
        refine wpE_done (by kernel_rfl) ?_ _
        try simp only [Exit.then, Exit.inBlock, ↓reduceIte, Nat.reduceEqDiff]
        exact ⟨false, (hS.meet [] (by decide) ⟨rfl, trivial⟩ trivial ⟨⟨5, rfl⟩, trivial⟩), hM⟩
    · replace hM := cf hb203 hM
      refine dyn 3 rfl (by kernel_rfl) (by kernel_rfl) (by kernel_rfl) hQ hS rfl rfl rfl hb203 rfl rfl fun a hS => ?_
      refine dyn 4 rfl (by kernel_rfl) (by kernel_rfl) (by kernel_rfl) hQ hS rfl rfl rfl hb203 rfl rfl fun a hS => ?_
      refine dyn 5 rfl (by kernel_rfl) (by kernel_rfl) (by kernel_rfl) hQ hS rfl rfl rfl hb203 rfl rfl fun a hS => ?_
      refine dy 6 (v := .bool false) rfl (by kernel_rfl) (by kernel_rfl) (by kernel_rfl) rfl hQ hS (y_pickf hS rfl hb203 rfl) rfl rfl rfl fun a hS => ?_
      refine dy 7 (v := .bool false) rfl (by kernel_rfl) (by kernel_rfl) (by kernel_rfl) rfl hQ hS (y_move hS rfl) rfl rfl rfl fun a hS => ?_
      refine dyn 8 rfl (by kernel_rfl) (by kernel_rfl) (by kernel_rfl) hQ hS rfl rfl rfl rfl rfl rfl fun a hS => ?_
      refine dyn 9 rfl (by kernel_rfl) (by kernel_rfl) (by kernel_rfl) hQ hS rfl rfl rfl rfl rfl rfl fun a hS => ?_
      refine dyn 10 rfl (by kernel_rfl) (by kernel_rfl) (by kernel_rfl) hQ hS rfl rfl rfl rfl rfl rfl fun a hS => ?_
      refine dyn 11 rfl (by kernel_rfl) (by kernel_rfl) (by kernel_rfl) hQ hS rfl rfl rfl rfl rfl rfl fun a hS => ?_
      refine dy 12 (v := .bool false) rfl (by kernel_rfl) (by kernel_rfl) (by kernel_rfl) rfl hQ hS (y_pickf hS rfl rfl rfl) rfl rfl rfl fun a hS => ?_
      refine dy 13 (v := .bool false) rfl (by kernel_rfl) (by kernel_rfl) (by kernel_rfl) rfl hQ hS (y_move hS rfl) rfl rfl rfl fun a hS => ?_
      refine dyn 14 rfl (by kernel_rfl) (by kernel_rfl) (by kernel_rfl) hQ hS rfl rfl rfl rfl rfl rfl fun a hS => ?_
      refine dyn 15 rfl (by kernel_rfl) (by kernel_rfl) (by kernel_rfl) hQ hS rfl rfl rfl rfl rfl rfl fun a hS => ?_
      refine dy 16 (v := .bool false) rfl (by kernel_rfl) (by kernel_rfl) (by kernel_rfl) rfl hQ hS (y_pickf hS rfl rfl rfl) rfl rfl rfl fun a hS => ?_
      refine dy 17 (v := .bool false) rfl (by kernel_rfl) (by kernel_rfl) (by kernel_rfl) rfl hQ hS (y_move hS rfl) rfl rfl rfl fun a hS => ?_
      refine dyn 18 rfl (by kernel_rfl) (by kernel_rfl) (by kernel_rfl) hQ hS rfl rfl rfl rfl rfl rfl fun a hS => ?_
      refine dyn 19 rfl (by kernel_rfl) (by kernel_rfl) (by kernel_rfl) hQ hS rfl rfl rfl rfl rfl rfl fun a hS => ?_
      refine dyn 20 rfl (by kernel_rfl) (by kernel_rfl) (by kernel_rfl) hQ hS rfl rfl rfl rfl rfl rfl fun a hS => ?_
      refine dy 21 (v := .bool false) rfl (by kernel_rfl) (by kernel_rfl) (by kernel_rfl) rfl hQ hS (y_pickf hS rfl rfl rfl) rfl rfl rfl fun a hS => ?_
      refine dy 22 (v := .bool false) rfl (by kernel_rfl) (by kernel_rfl) (by kernel_rfl) rfl hQ hS (y_move hS rfl) rfl rfl rfl fun a hS => ?_
      refine dyn 23 rfl (by kernel_rfl) (by kernel_rfl) (by kernel_rfl) hQ hS rfl rfl rfl rfl rfl rfl fun a hS => ?_
      refine dyn 24 rfl (by kernel_rfl) (by kernel_rfl) (by kernel_rfl) hQ hS rfl rfl rfl rfl rfl rfl fun a hS => ?_
      refine dy 25 (v := .bool false) rfl (by kernel_rfl) (by kernel_rfl) (by kernel_rfl) rfl hQ hS (y_pickf hS rfl rfl rfl) rfl rfl rfl fun a hS => ?_
      refine dy 26 (v := .bool false) rfl (by kernel_rfl) (by kernel_rfl) (by kernel_rfl) rfl hQ hS (y_move hS rfl) rfl rfl rfl fun a hS => ?_
      refine dyn 27 rfl (by kernel_rfl) (by kernel_rfl) (by kernel_rfl) hQ hS rfl rfl rfl rfl rfl rfl fun a hS => ?_
      refine dyn 28 rfl (by kernel_rfl) (by kernel_rfl) (by kernel_rfl) hQ hS rfl rfl rfl rfl rfl rfl fun a hS => ?_
      refine dy 29 (v := .bool false) rfl (by kernel_rfl) (by kernel_rfl) (by kernel_rfl) rfl hQ hS (y_pickf hS rfl rfl rfl) rfl rfl rfl fun a hS => ?_
      refine dy 30 (v := .bool false) rfl (by kernel_rfl) (by kernel_rfl) (by kernel_rfl) rfl hQ hS (y_assign hS rfl) rfl rfl rfl fun a hS => ?_
      refine wpE_done (by kernel_rfl) ?_ _
      try simp only [Exit.then, Exit.inBlock, ↓reduceIte, Nat.reduceEqDiff]
      exact ⟨false, (hS.meet [] (by decide) ⟨rfl, trivial⟩ trivial ⟨⟨5, rfl⟩, trivial⟩), hM⟩
  · rintro a w ⟨g186, hS, hM⟩
    unfold law24_awake_j1 at hM
    refine wp_ret ?_
    injection hM with hM
    subst hM
    try simp only [Exit.then, Exit.inBlock, ↓reduceIte, Nat.reduceEqDiff]
    refine ret_ok hS Tryd.results27 (res_tmp hS rfl res_nil) ?_
    exact rfl

noncomputable def ref24_Block_j1 (a297 : Int) (b367 : Int) : Option (Int × Int) := some ((a297, b367))
noncomputable def ref24_Block_l2 (rules_ : (List RuleD)) (n_1 : Int) (b402 : Int) : Option (Fl (Int) (Int)) := (getI rules_ n_1).bind fun e453 => cond e453.Ring (cond (decide ((b402 : Int) < (rules_.length : Int))) ((getI rules_ b402).bind fun e462 => cond e462.Ring (some (.go (IntKind.i64.wrap (b402 + 1)))) (some (.out b402))) (some (.out b402))) (some (.out b402))
noncomputable def ref24_Block_j3 (rules_ : (List RuleD)) (n_1 : Int) (a297 : Int) : Option (Int × Int) := (loop (fun s : Int => ref24_Block_l2 rules_ n_1 s) (IntKind.i64.wrap (n_1 + 1))).bind fun r => ref24_Block_j1 a297 r
noncomputable def ref24_Block_l4 (rules_ : (List RuleD)) (n_1 : Int) (a504 : Int) : Option (Fl (Int) (Int)) := (getI rules_ n_1).bind fun e555 => cond e555.Ring (cond (decide ((0 : Int) < a504)) ((getI rules_ (IntKind.i64.wrap (a504 - 1))).bind fun e564 => cond e564.Ring (some (.go (IntKind.i64.wrap (a504 - 1)))) (some (.out a504))) (some (.out a504))) (some (.out a504))
noncomputable def ref24_Block (rules_ : (List RuleD)) (n_1 : Int) : Option (Int × Int) := cond (decide ((n_1 : Int) < 0)) (some ((0, 0))) (cond (decide (((rules_.length : Int) : Int) ≤ n_1)) (some ((0, 0))) ((loop (fun s : Int => ref24_Block_l4 rules_ n_1 s) n_1).bind fun r => ref24_Block_j3 rules_ n_1 r))
set_option maxRecDepth 100000 in
set_option maxHeartbeats 4000000 in
theorem ref24_Block_c (T : Nat → Prop) (W0 : World) (hT : ∀ k, T k → k < W0.heap.size) (rules_ : (List RuleD)) (n_1 : Int) (v1 : Value) (hv1 : SlR R_RuleD T W0 v1 rules_) (y : Int × Int) (hM : ref24_Block rules_ n_1 = some y) : Rets Tryd.prog No 33 [v1, .int .i64 n_1] W0 (fun v w' => v = .tuple #[.int .i64 y.1, .int .i64 y.2]) := by
  refine enter (c := _) Tryd.func33 rfl T 60 Tryd.ntmps33 hT rfl fun a hS => ?_
  replace hS := hS.fact (SlF R_RuleD v1 rules_) (SlR.dn hv1)
  unfold ref24_Block at hM
  refine wp_seq_k fun K20 hK20 => ?_
  refine r_list ?_
  refine wl rfl (ky (v := .int .i64 0) hS (y_assign hS rfl) rfl rfl fun a hS => ?_)
  refine wl rfl (ky (v := .int .i64 0) hS (y_assign hS rfl) rfl rfl fun a hS => ?_)
  refine wpList_nil ?_
  try simp only [Exit.then, Exit.inBlock, ↓reduceIte, Nat.reduceEqDiff]
  refine hK20 _ _ ?_
  refine wp_seq_k fun K21 hK21 => ?_
  refine wp_seq_k fun K22 hK22 => ?_
  refine r_list ?_
  refine wl rfl (ky (v := .int .i64 n_1) hS (y_move hS rfl) rfl rfl fun a hS => ?_)
  refine wl rfl (ky (v := .bool (decide ((n_1 : Int) < 0))) hS (y_int hS rfl rfl rfl) rfl rfl fun a hS => ?_)
  refine wl rfl (ky (v := .bool (decide ((n_1 : Int) < 0))) hS (y_move hS rfl) rfl rfl fun a hS => ?_)
  rcases bool2 (decide ((n_1 : Int) < 0)) with hb226 | hb226
  · replace hM := ct hb226 hM
    refine wn hS rfl rfl rfl hb226 rfl rfl fun a hS => ?_
    refine wn hS rfl rfl rfl hb226 rfl rfl fun a hS => ?_
    refine wn hS rfl rfl rfl hb226 rfl rfl fun a hS => ?_
    refine wn hS rfl rfl rfl hb226 rfl rfl fun a hS => ?_
    refine wl rfl (ky (v := .bool true) hS (y_pickt hS rfl hb226 rfl) rfl rfl fun a hS => ?_)
    refine wpList_nil ?_
    try simp only [Exit.then, Exit.inBlock, ↓reduceIte, Nat.reduceEqDiff]
    refine hK22 _ _ ?_
    refine c_t hS rfl rfl ?_
    refine wp_seq_k fun K23 hK23 => ?_
    refine r_list ?_
    refine wl rfl (ky (v := .int .i64 0) hS (y_assign hS rfl) rfl rfl fun a hS => ?_)
    refine wl rfl (ky (v := .int .i64 0) hS (y_assign hS rfl) rfl rfl fun a hS => ?_)
    refine wpList_nil ?_
    try simp only [Exit.then, Exit.inBlock, ↓reduceIte, Nat.reduceEqDiff]
    refine hK23 _ _ ?_
    refine wp_ret ?_
    injection hM with hM
    subst hM
    try simp only [Exit.then, Exit.inBlock, ↓reduceIte, Nat.reduceEqDiff]
    refine ret_ok hS Tryd.results33 (res_tmp hS rfl (res_tmp hS rfl res_nil)) ?_
    exact rfl
  · replace hM := cf hb226 hM
    refine wg hS rfl rfl rfl hb226 (ky (v := .int .i64 n_1) hS (y_move hS rfl) rfl rfl fun a hS => ?_)
    refine wg hS rfl rfl rfl hb226 (ky (v := v1) hS (y_move hS rfl) rfl rfl fun a hS => ?_)
    refine wg hS rfl rfl rfl hb226 (ky (v := .int .i64 (rules_.length : Int)) hS (y_len (R := R_RuleD) (xs := rules_) hS sl44 rfl 0 rfl) rfl rfl fun a hS => ?_)
    refine wg hS rfl rfl rfl hb226 (ky (v := .bool (decide (((rules_.length : Int) : Int) ≤ n_1))) hS (y_int hS rfl rfl rfl) rfl rfl fun a hS => ?_)
    refine wl rfl (ky (v := .bool (decide (((rules_.length : Int) : Int) ≤ n_1))) hS (y_pickf hS rfl hb226 rfl) rfl rfl fun a hS => ?_)
    refine wpList_nil ?_
    try simp only [Exit.then, Exit.inBlock, ↓reduceIte, Nat.reduceEqDiff]
    refine hK22 _ _ ?_
    rcases bool2 (decide (((rules_.length : Int) : Int) ≤ n_1)) with hb227 | hb227
    · replace hM := ct hb227 hM
      refine c_t hS rfl hb227 ?_
      refine wp_seq_k fun K24 hK24 => ?_
      refine r_list ?_
      refine wl rfl (ky (v := .int .i64 0) hS (y_assign hS rfl) rfl rfl fun a hS => ?_)
      refine wl rfl (ky (v := .int .i64 0) hS (y_assign hS rfl) rfl rfl fun a hS => ?_)
      refine wpList_nil ?_
      try simp only [Exit.then, Exit.inBlock, ↓reduceIte, Nat.reduceEqDiff]
      refine hK24 _ _ ?_
      refine wp_ret ?_
      injection hM with hM
      subst hM
      try simp only [Exit.then, Exit.inBlock, ↓reduceIte, Nat.reduceEqDiff]
      refine ret_ok hS Tryd.results33 (res_tmp hS rfl (res_tmp hS rfl res_nil)) ?_
      exact rfl
    · replace hM := cf hb227 hM
      refine c_f hS rfl hb227 ?_
      refine wp_skip ?_
      try simp only [Exit.then, Exit.inBlock, ↓reduceIte, Nat.reduceEqDiff]
      refine hK21 _ _ ?_
      refine wp_seq_k fun K25 hK25 => ?_
      refine r_list ?_
      refine wl rfl (ky (v := .int .i64 n_1) hS (y_move hS rfl) rfl rfl fun a hS => ?_)
      refine wl rfl (ky (v := .int .i64 n_1) hS (y_move hS rfl) rfl rfl fun a hS => ?_)
      refine wl rfl (ky (v := .int .i64 (IntKind.i64.wrap (n_1 + 1))) hS (y_int hS rfl rfl rfl) rfl rfl fun a hS => ?_)
      refine wl rfl (ky (v := .int .i64 n_1) hS (y_assign hS rfl) rfl rfl fun a hS => ?_)
      refine wl rfl (ky (v := .int .i64 (IntKind.i64.wrap (n_1 + 1))) hS (y_assign hS rfl) rfl rfl fun a hS => ?_)
      refine wpList_nil ?_
      try simp only [Exit.then, Exit.inBlock, ↓reduceIte, Nat.reduceEqDiff]
      refine hK25 _ _ ?_
      refine seq_j (J := fun a w => ∃ (a297 : Int), St W0 No T 60 [(0, v1), (1, .int .i64 n_1), (6, .int .i64 a297), (7, .int .i64 (IntKind.i64.wrap (n_1 + 1)))] [] [SlF R_RuleD v1 rules_] a w ∧ ref24_Block_j3 rules_ n_1 a297 = some y) ?_ ?_
      · skip
        refine wp_block ?_
        obtain ⟨r1, hl1, hMo1⟩ := bd hM
        refine wp_lp (fun s : Int => ref24_Block_l4 rules_ n_1 s) (fun s a w => ∃ (a504 : Int), a504 = s ∧ St W0 No T 60 [(0, v1), (1, .int .i64 n_1), (6, .int .i64 a504), (7, .int .i64 (IntKind.i64.wrap (n_1 + 1)))] [] [SlF R_RuleD v1 rules_] a w) hl1 ⟨n_1, rfl, (hS.meet [] (by decide) ⟨rfl, rfl, rfl, rfl, trivial⟩ trivial ⟨⟨0, rfl⟩, trivial⟩)⟩ ?_
        rintro s a w f1 ⟨a504, rfl, hS⟩ hM hf1
        have hM : ref24_Block_l4 rules_ n_1 a504 = some f1 := hM
        unfold ref24_Block_l4 at hM
        refine wp_seq_k fun K45 hK45 => ?_
        refine wp_seq_k fun K46 hK46 => ?_
        refine r_list ?_
        refine wl rfl (ky (v := v1) hS (y_move hS rfl) rfl rfl fun a hS => ?_)
        refine wl rfl (ky (v := .int .i64 n_1) hS (y_move hS rfl) rfl rfl fun a hS => ?_)
        obtain ⟨e555, he555, hM⟩ := bd hM
        refine wl rfl (k_index (R := R_RuleD) hS sl44 ty48 rfl rfl 0 rfl he555 rfl fun b557 o558 cs560 hr559 a hS => ?_)
        obtain ⟨v556, rfl, hv556⟩ := hr559
        replace hS := hS.fact (SlF R_AskD v556 e555.Asks) hv556
        refine wl rfl (ky (v := .pointer (some ⟨b557, o558 + 0, none⟩)) hS (y_fld hS rfl fl48_0) rfl rfl fun a hS => ?_)
        refine wl rfl (ky (v := .bool e555.Ring) hS (y_loadc (k := 0) hS ty4 1 rfl rfl (fun _ h => h.elim) (us := [.bool e555.Ring]) rfl rfl (fun _ => rfl)) rfl rfl fun a hS => ?_)
        refine wl rfl (ky (v := .bool e555.Ring) hS (y_move hS rfl) rfl rfl fun a hS => ?_)
        rcases bool2 (e555.Ring) with hb562 | hb562
        · replace hM := ct hb562 hM
          refine wg hS rfl rfl rfl hb562 (ky (v := .int .i64 a504) hS (y_move hS rfl) rfl rfl fun a hS => ?_)
          refine wg hS rfl rfl rfl hb562 (ky (v := .bool (decide ((0 : Int) < a504))) hS (y_int hS rfl rfl rfl) rfl rfl fun a hS => ?_)
          refine wl rfl (ky (v := .bool (decide ((0 : Int) < a504))) hS (y_pickt hS rfl hb562 rfl) rfl rfl fun a hS => ?_)
          refine wl rfl (ky (v := .bool (decide ((0 : Int) < a504))) hS (y_move hS rfl) rfl rfl fun a hS => ?_)
          rcases bool2 (decide ((0 : Int) < a504)) with hb563 | hb563
          · replace hM := ct hb563 hM
            refine wg hS rfl rfl rfl hb563 (ky (v := v1) hS (y_move hS rfl) rfl rfl fun a hS => ?_)
            refine wg hS rfl rfl rfl hb563 (ky (v := .int .i64 a504) hS (y_move hS rfl) rfl rfl fun a hS => ?_)
            refine wg hS rfl rfl rfl hb563 (ky (v := .int .i64 (IntKind.i64.wrap (a504 - 1))) hS (y_int hS rfl rfl rfl) rfl rfl fun a hS => ?_)
            obtain ⟨e564, he564, hM⟩ := bd hM
            refine wg hS rfl rfl rfl hb563 (k_index (R := R_RuleD) hS sl44 ty48 rfl rfl 2 rfl he564 rfl fun b566 o567 cs569 hr568 a hS => ?_)
            obtain ⟨v565, rfl, hv565⟩ := hr568
            replace hS := hS.fact (SlF R_AskD v565 e564.Asks) hv565
            refine wg hS rfl rfl rfl hb563 (ky (v := .pointer (some ⟨b566, o567 + 0, none⟩)) hS (y_fld hS rfl fl48_0) rfl rfl fun a hS => ?_)
            refine wg hS rfl rfl rfl hb563 (ky (v := .bool e564.Ring) hS (y_loadc (k := 0) hS ty4 1 rfl rfl (fun _ h => h.elim) (us := [.bool e564.Ring]) rfl rfl (fun _ => rfl)) rfl rfl fun a hS => ?_)
            refine wl rfl (ky (v := .bool e564.Ring) hS (y_pickt hS rfl hb563 rfl) rfl rfl fun a hS => ?_)
            refine wpList_nil ?_
            try simp only [Exit.then, Exit.inBlock, ↓reduceIte, Nat.reduceEqDiff]
            refine hK46 _ _ ?_
            rcases bool2 (e564.Ring) with hb571 | hb571
            · replace hM := ct hb571 hM
              refine c_t hS rfl hb571 ?_
              refine wp_skip ?_
              try simp only [Exit.then, Exit.inBlock, ↓reduceIte, Nat.reduceEqDiff]
              refine hK45 _ _ ?_
              refine wp_block ?_
              refine r_list ?_
              refine wl rfl (ky (v := .int .i64 a504) hS (y_move hS rfl) rfl rfl fun a hS => ?_)
              refine wl rfl (ky (v := .int .i64 (IntKind.i64.wrap (a504 - 1))) hS (y_int hS rfl rfl rfl) rfl rfl fun a hS => ?_)
              refine wl rfl (ky (v := .int .i64 (IntKind.i64.wrap (a504 - 1))) hS (y_assign hS rfl) rfl rfl fun a hS => ?_)
              refine wpList_nil ?_
              try simp only [Exit.then, Exit.inBlock, ↓reduceIte, Nat.reduceEqDiff]
              exact ⟨IntKind.i64.wrap (a504 - 1), (Option.some.inj hM).symm, (IntKind.i64.wrap (a504 - 1)), rfl, (hS.meet [] (by decide) ⟨rfl, rfl, rfl, rfl, trivial⟩ trivial ⟨⟨4, rfl⟩, trivial⟩)⟩
            · replace hM := cf hb571 hM
              refine c_f hS rfl hb571 ?_
              refine wp_exit ?_
              try simp only [Exit.then, Exit.inBlock, ↓reduceIte, Nat.reduceEqDiff]
              injection hM with hM
              subst hM
              have hr := hf1 _ rfl
              subst hr
              have hM : ref24_Block_j3 rules_ n_1 a504 = some y := hMo1
              exact ⟨a504, (hS.meet [] (by decide) ⟨rfl, rfl, rfl, rfl, trivial⟩ trivial ⟨⟨4, rfl⟩, trivial⟩), hM⟩
          · replace hM := cf hb563 hM
            refine wn hS rfl rfl rfl hb563 rfl rfl fun a hS => ?_
            refine wn hS rfl rfl rfl hb563 rfl rfl fun a hS => ?_
            refine wn hS rfl rfl rfl hb563 rfl rfl fun a hS => ?_
            refine wn hS rfl rfl rfl hb563 rfl rfl fun a hS => ?_
            refine wn hS rfl rfl rfl hb563 rfl rfl fun a hS => ?_
            refine wn hS rfl rfl rfl hb563 rfl rfl fun a hS => ?_
            refine wl rfl (ky (v := .bool false) hS (y_pickf hS rfl hb563 rfl) rfl rfl fun a hS => ?_)
            refine wpList_nil ?_
            try simp only [Exit.then, Exit.inBlock, ↓reduceIte, Nat.reduceEqDiff]
            refine hK46 _ _ ?_
            refine c_f hS rfl rfl ?_
            refine wp_exit ?_
            try simp only [Exit.then, Exit.inBlock, ↓reduceIte, Nat.reduceEqDiff]
            injection hM with hM
            subst hM
            have hr := hf1 _ rfl
            subst hr
            have hM : ref24_Block_j3 rules_ n_1 a504 = some y := hMo1
            exact ⟨a504, (hS.meet [] (by decide) ⟨rfl, rfl, rfl, rfl, trivial⟩ trivial ⟨⟨2, rfl⟩, trivial⟩), hM⟩
        · replace hM := cf hb562 hM
          refine wn hS rfl rfl rfl hb562 rfl rfl fun a hS => ?_
          refine wn hS rfl rfl rfl hb562 rfl rfl fun a hS => ?_
          refine wl rfl (ky (v := .bool false) hS (y_pickf hS rfl hb562 rfl) rfl rfl fun a hS => ?_)
          refine wl rfl (ky (v := .bool false) hS (y_move hS rfl) rfl rfl fun a hS => ?_)
          refine wn hS rfl rfl rfl rfl rfl rfl fun a hS => ?_
          refine wn hS rfl rfl rfl rfl rfl rfl fun a hS => ?_
          refine wn hS rfl rfl rfl rfl rfl rfl fun a hS => ?_
          refine wn hS rfl rfl rfl rfl rfl rfl fun a hS => ?_
          refine wn hS rfl rfl rfl rfl rfl rfl fun a hS => ?_
          refine wn hS rfl rfl rfl rfl rfl rfl fun a hS => ?_
          refine wl rfl (ky (v := .bool false) hS (y_pickf hS rfl rfl rfl) rfl rfl fun a hS => ?_)
          refine wpList_nil ?_
          try simp only [Exit.then, Exit.inBlock, ↓reduceIte, Nat.reduceEqDiff]
          refine hK46 _ _ ?_
          refine c_f hS rfl rfl ?_
          refine wp_exit ?_
          try simp only [Exit.then, Exit.inBlock, ↓reduceIte, Nat.reduceEqDiff]
          injection hM with hM
          subst hM
          have hr := hf1 _ rfl
          subst hr
          have hM : ref24_Block_j3 rules_ n_1 a504 = some y := hMo1
          exact ⟨a504, (hS.meet [] (by decide) ⟨rfl, rfl, rfl, rfl, trivial⟩ trivial ⟨⟨2, rfl⟩, trivial⟩), hM⟩
      · rintro a w ⟨a297, hS, hM⟩
        unfold ref24_Block_j3 at hM
        refine seq_j (J := fun a w => ∃ (b367 : Int), St W0 No T 60 [(6, .int .i64 a297), (7, .int .i64 b367)] [] [] a w ∧ ref24_Block_j1 a297 b367 = some y) ?_ ?_
        · skip
          refine wp_block ?_
          obtain ⟨r1, hl1, hMo1⟩ := bd hM
          refine wp_lp (fun s : Int => ref24_Block_l2 rules_ n_1 s) (fun s a w => ∃ (b402 : Int), b402 = s ∧ St W0 No T 60 [(0, v1), (1, .int .i64 n_1), (6, .int .i64 a297), (7, .int .i64 b402)] [] [SlF R_RuleD v1 rules_] a w) hl1 ⟨(IntKind.i64.wrap (n_1 + 1)), rfl, (hS.meet [] (by decide) ⟨rfl, rfl, rfl, rfl, trivial⟩ trivial ⟨⟨0, rfl⟩, trivial⟩)⟩ ?_
          rintro s a w f1 ⟨b402, rfl, hS⟩ hM hf1
          have hM : ref24_Block_l2 rules_ n_1 b402 = some f1 := hM
          unfold ref24_Block_l2 at hM
          refine wp_seq_k fun K39 hK39 => ?_
          refine wp_seq_k fun K40 hK40 => ?_
          refine r_list ?_
          refine wl rfl (ky (v := v1) hS (y_move hS rfl) rfl rfl fun a hS => ?_)
          refine wl rfl (ky (v := .int .i64 n_1) hS (y_move hS rfl) rfl rfl fun a hS => ?_)
          obtain ⟨e453, he453, hM⟩ := bd hM
          refine wl rfl (k_index (R := R_RuleD) hS sl44 ty48 rfl rfl 0 rfl he453 rfl fun b455 o456 cs458 hr457 a hS => ?_)
          obtain ⟨v454, rfl, hv454⟩ := hr457
          replace hS := hS.fact (SlF R_AskD v454 e453.Asks) hv454
          refine wl rfl (ky (v := .pointer (some ⟨b455, o456 + 0, none⟩)) hS (y_fld hS rfl fl48_0) rfl rfl fun a hS => ?_)
          refine wl rfl (ky (v := .bool e453.Ring) hS (y_loadc (k := 0) hS ty4 1 rfl rfl (fun _ h => h.elim) (us := [.bool e453.Ring]) rfl rfl (fun _ => rfl)) rfl rfl fun a hS => ?_)
          refine wl rfl (ky (v := .bool e453.Ring) hS (y_move hS rfl) rfl rfl fun a hS => ?_)
          rcases bool2 (e453.Ring) with hb460 | hb460
          · replace hM := ct hb460 hM
            refine wg hS rfl rfl rfl hb460 (ky (v := .int .i64 b402) hS (y_move hS rfl) rfl rfl fun a hS => ?_)
            refine wg hS rfl rfl rfl hb460 (ky (v := v1) hS (y_move hS rfl) rfl rfl fun a hS => ?_)
            refine wg hS rfl rfl rfl hb460 (ky (v := .int .i64 (rules_.length : Int)) hS (y_len (R := R_RuleD) (xs := rules_) hS sl44 rfl 2 rfl) rfl rfl fun a hS => ?_)
            refine wg hS rfl rfl rfl hb460 (ky (v := .bool (decide ((b402 : Int) < (rules_.length : Int)))) hS (y_int hS rfl rfl rfl) rfl rfl fun a hS => ?_)
            refine wl rfl (ky (v := .bool (decide ((b402 : Int) < (rules_.length : Int)))) hS (y_pickt hS rfl hb460 rfl) rfl rfl fun a hS => ?_)
            refine wl rfl (ky (v := .bool (decide ((b402 : Int) < (rules_.length : Int)))) hS (y_move hS rfl) rfl rfl fun a hS => ?_)
            rcases bool2 (decide ((b402 : Int) < (rules_.length : Int))) with hb461 | hb461
            · replace hM := ct hb461 hM
              refine wg hS rfl rfl rfl hb461 (ky (v := v1) hS (y_move hS rfl) rfl rfl fun a hS => ?_)
              refine wg hS rfl rfl rfl hb461 (ky (v := .int .i64 b402) hS (y_move hS rfl) rfl rfl fun a hS => ?_)
              obtain ⟨e462, he462, hM⟩ := bd hM
              refine wg hS rfl rfl rfl hb461 (k_index (R := R_RuleD) hS sl44 ty48 rfl rfl 2 rfl he462 rfl fun b464 o465 cs467 hr466 a hS => ?_)
              obtain ⟨v463, rfl, hv463⟩ := hr466
              replace hS := hS.fact (SlF R_AskD v463 e462.Asks) hv463
              refine wg hS rfl rfl rfl hb461 (ky (v := .pointer (some ⟨b464, o465 + 0, none⟩)) hS (y_fld hS rfl fl48_0) rfl rfl fun a hS => ?_)
              refine wg hS rfl rfl rfl hb461 (ky (v := .bool e462.Ring) hS (y_loadc (k := 0) hS ty4 1 rfl rfl (fun _ h => h.elim) (us := [.bool e462.Ring]) rfl rfl (fun _ => rfl)) rfl rfl fun a hS => ?_)
              refine wl rfl (ky (v := .bool e462.Ring) hS (y_pickt hS rfl hb461 rfl) rfl rfl fun a hS => ?_)
              refine wpList_nil ?_
              try simp only [Exit.then, Exit.inBlock, ↓reduceIte, Nat.reduceEqDiff]
              refine hK40 _ _ ?_
              rcases bool2 (e462.Ring) with hb469 | hb469
              · replace hM := ct hb469 hM
                refine c_t hS rfl hb469 ?_
                refine wp_skip ?_
                try simp only [Exit.then, Exit.inBlock, ↓reduceIte, Nat.reduceEqDiff]
                refine hK39 _ _ ?_
                refine wp_block ?_
                refine r_list ?_
                refine wl rfl (ky (v := .int .i64 b402) hS (y_move hS rfl) rfl rfl fun a hS => ?_)
                refine wl rfl (ky (v := .int .i64 (IntKind.i64.wrap (b402 + 1))) hS (y_int hS rfl rfl rfl) rfl rfl fun a hS => ?_)
                refine wl rfl (ky (v := .int .i64 (IntKind.i64.wrap (b402 + 1))) hS (y_assign hS rfl) rfl rfl fun a hS => ?_)
                refine wpList_nil ?_
                try simp only [Exit.then, Exit.inBlock, ↓reduceIte, Nat.reduceEqDiff]
                exact ⟨IntKind.i64.wrap (b402 + 1), (Option.some.inj hM).symm, (IntKind.i64.wrap (b402 + 1)), rfl, (hS.meet [] (by decide) ⟨rfl, rfl, rfl, rfl, trivial⟩ trivial ⟨⟨4, rfl⟩, trivial⟩)⟩
              · replace hM := cf hb469 hM
                refine c_f hS rfl hb469 ?_
                refine wp_exit ?_
                try simp only [Exit.then, Exit.inBlock, ↓reduceIte, Nat.reduceEqDiff]
                injection hM with hM
                subst hM
                have hr := hf1 _ rfl
                subst hr
                have hM : ref24_Block_j1 a297 b402 = some y := hMo1
                exact ⟨b402, (hS.meet [] (by decide) ⟨rfl, rfl, trivial⟩ trivial trivial), hM⟩
            · replace hM := cf hb461 hM
              refine wn hS rfl rfl rfl hb461 rfl rfl fun a hS => ?_
              refine wn hS rfl rfl rfl hb461 rfl rfl fun a hS => ?_
              refine wn hS rfl rfl rfl hb461 rfl rfl fun a hS => ?_
              refine wn hS rfl rfl rfl hb461 rfl rfl fun a hS => ?_
              refine wn hS rfl rfl rfl hb461 rfl rfl fun a hS => ?_
              refine wl rfl (ky (v := .bool false) hS (y_pickf hS rfl hb461 rfl) rfl rfl fun a hS => ?_)
              refine wpList_nil ?_
              try simp only [Exit.then, Exit.inBlock, ↓reduceIte, Nat.reduceEqDiff]
              refine hK40 _ _ ?_
              refine c_f hS rfl rfl ?_
              refine wp_exit ?_
              try simp only [Exit.then, Exit.inBlock, ↓reduceIte, Nat.reduceEqDiff]
              injection hM with hM
              subst hM
              have hr := hf1 _ rfl
              subst hr
              have hM : ref24_Block_j1 a297 b402 = some y := hMo1
              exact ⟨b402, (hS.meet [] (by decide) ⟨rfl, rfl, trivial⟩ trivial trivial), hM⟩
          · replace hM := cf hb460 hM
            refine wn hS rfl rfl rfl hb460 rfl rfl fun a hS => ?_
            refine wn hS rfl rfl rfl hb460 rfl rfl fun a hS => ?_
            refine wn hS rfl rfl rfl hb460 rfl rfl fun a hS => ?_
            refine wn hS rfl rfl rfl hb460 rfl rfl fun a hS => ?_
            refine wl rfl (ky (v := .bool false) hS (y_pickf hS rfl hb460 rfl) rfl rfl fun a hS => ?_)
            refine wl rfl (ky (v := .bool false) hS (y_move hS rfl) rfl rfl fun a hS => ?_)
            refine wn hS rfl rfl rfl rfl rfl rfl fun a hS => ?_
            refine wn hS rfl rfl rfl rfl rfl rfl fun a hS => ?_
            refine wn hS rfl rfl rfl rfl rfl rfl fun a hS => ?_
            refine wn hS rfl rfl rfl rfl rfl rfl fun a hS => ?_
            refine wn hS rfl rfl rfl rfl rfl rfl fun a hS => ?_
            refine wl rfl (ky (v := .bool false) hS (y_pickf hS rfl rfl rfl) rfl rfl fun a hS => ?_)
            refine wpList_nil ?_
            try simp only [Exit.then, Exit.inBlock, ↓reduceIte, Nat.reduceEqDiff]
            refine hK40 _ _ ?_
            refine c_f hS rfl rfl ?_
            refine wp_exit ?_
            try simp only [Exit.then, Exit.inBlock, ↓reduceIte, Nat.reduceEqDiff]
            injection hM with hM
            subst hM
            have hr := hf1 _ rfl
            subst hr
            have hM : ref24_Block_j1 a297 b402 = some y := hMo1
            exact ⟨b402, (hS.meet [] (by decide) ⟨rfl, rfl, trivial⟩ trivial trivial), hM⟩
        · rintro a w ⟨b367, hS, hM⟩
          unfold ref24_Block_j1 at hM
          refine wp_seq_k fun K34 hK34 => ?_
          refine r_list ?_
          refine wl rfl (ky (v := .int .i64 a297) hS (y_move hS rfl) rfl rfl fun a hS => ?_)
          refine wl rfl (ky (v := .int .i64 b367) hS (y_move hS rfl) rfl rfl fun a hS => ?_)
          refine wl rfl (ky (v := .int .i64 a297) hS (y_assign hS rfl) rfl rfl fun a hS => ?_)
          refine wl rfl (ky (v := .int .i64 b367) hS (y_assign hS rfl) rfl rfl fun a hS => ?_)
          refine wpList_nil ?_
          try simp only [Exit.then, Exit.inBlock, ↓reduceIte, Nat.reduceEqDiff]
          refine hK34 _ _ ?_
          refine wp_ret ?_
          injection hM with hM
          subst hM
          try simp only [Exit.then, Exit.inBlock, ↓reduceIte, Nat.reduceEqDiff]
          refine ret_ok hS Tryd.results33 (res_tmp hS rfl (res_tmp hS rfl res_nil)) ?_
          exact rfl

noncomputable def ref24_may_j1 (g39 : Bool) : Option Bool := some (g39)
noncomputable def ref24_may_j2 (g55 : Bool) : Option Bool := some (g55)
noncomputable def ref24_may_j3 (n51 : Int) (b52 : Int) : Option Bool := cond (decide ((0 : Int) ≤ n51)) (ref24_may_j2 (decide ((n51 : Int) < b52))) (ref24_may_j2 false)
noncomputable def ref24_may (rules_ : (List RuleD)) (i_1 : Int) (x_2 : AskD) (n_3 : Int) : Option Bool := cond x_2.Cell (cond (decide ((0 : Int) ≤ n_3)) (ref24_may_j1 (decide ((n_3 : Int) ≤ 15))) (ref24_may_j1 false)) ((ref24_Block rules_ i_1).bind fun u41 => (getI rules_ i_1).bind fun e57 => cond (!(e57.Ring)) (ref24_may_j3 n_3 u41.1) (ref24_may_j3 n_3 u41.2))
set_option maxRecDepth 100000 in
set_option maxHeartbeats 4000000 in
theorem ref24_may_c (T : Nat → Prop) (W0 : World) (hT : ∀ k, T k → k < W0.heap.size) (rules_ : (List RuleD)) (i_1 : Int) (x_2 : AskD) (n_3 : Int) (v1 : Value) (hv1 : SlR R_RuleD T W0 v1 rules_) (y : Bool) (hM : ref24_may rules_ i_1 x_2 n_3 = some y) : Rets Tryd.prog No 65 [v1, .int .i64 i_1, .agg #[.bool x_2.Cell, .bool x_2.Pick, .int .i64 x_2.N, .int .i64 x_2.Else], .int .i64 n_3] W0 (fun v w' => v = .bool y) := by
  refine enter (c := _) Tryd.func65 rfl T 39 Tryd.ntmps65 hT rfl fun a hS => ?_
  replace hS := hS.fact (SlF R_RuleD v1 rules_) (SlR.dn hv1)
  unfold ref24_may at hM
  refine wp_seq_k fun K7 hK7 => ?_
  refine r_list ?_
  refine wl rfl (k_box hS rfl (cs := [.bool x_2.Cell, .bool x_2.Pick, .int .i64 x_2.N, .int .i64 x_2.Else]) rfl rfl fun b33 hnb35 a w hk hS => ?_)
  refine wl rfl (ky (v := .bool false) hS (y_assign hS rfl) rfl rfl fun a hS => ?_)
  refine wpList_nil ?_
  try simp only [Exit.then, Exit.inBlock, ↓reduceIte, Nat.reduceEqDiff]
  refine hK7 _ _ ?_
  refine wp_seq_k fun K8 hK8 => ?_
  refine wp_seq_k fun K9 hK9 => ?_
  refine r_list ?_
  refine wl rfl (ky (v := .pointer (some ⟨b33, 0 + 0, none⟩)) hS (y_fld hS rfl fl55_0) rfl rfl fun a hS => ?_)
  refine wl rfl (ky (v := .bool x_2.Cell) hS (y_load hS rfl ty4 0 rfl id (us := [.bool x_2.Cell]) rfl rfl (fun _ => rfl)) rfl rfl fun a hS => ?_)
  refine wpList_nil ?_
  try simp only [Exit.then, Exit.inBlock, ↓reduceIte, Nat.reduceEqDiff]
  refine hK9 _ _ ?_
  rcases bool2 (x_2.Cell) with hb36 | hb36
  · replace hM := ct hb36 hM
    refine c_t hS rfl hb36 ?_
    refine seq_j (J := fun a w => ∃ (g39 : Bool), St W0 No T 39 [(8, .bool g39)] [] [] a w ∧ ref24_may_j1 g39 = some y) ?_ ?_
    · skip
      refine r_list ?_
      refine wl rfl (ky (v := .int .i64 n_3) hS (y_move hS rfl) rfl rfl fun a hS => ?_)
      refine wl rfl (ky (v := .bool (decide ((0 : Int) ≤ n_3))) hS (y_int hS rfl rfl rfl) rfl rfl fun a hS => ?_)
      refine wl rfl (ky (v := .bool (decide ((0 : Int) ≤ n_3))) hS (y_move hS rfl) rfl rfl fun a hS => ?_)
      rcases bool2 (decide ((0 : Int) ≤ n_3)) with hb40 | hb40
      · replace hM := ct hb40 hM
        refine wg hS rfl rfl rfl hb40 (ky (v := .int .i64 n_3) hS (y_move hS rfl) rfl rfl fun a hS => ?_)
        refine wg hS rfl rfl rfl hb40 (ky (v := .bool (decide ((n_3 : Int) ≤ 15))) hS (y_int hS rfl rfl rfl) rfl rfl fun a hS => ?_)
        refine wl rfl (ky (v := .bool (decide ((n_3 : Int) ≤ 15))) hS (y_pickt hS rfl hb40 rfl) rfl rfl fun a hS => ?_)
        refine wl rfl (ky (v := .bool (decide ((n_3 : Int) ≤ 15))) hS (y_assign hS rfl) rfl rfl fun a hS => ?_)
        refine wpList_nil ?_
        try simp only [Exit.then, Exit.inBlock, ↓reduceIte, Nat.reduceEqDiff]
        exact ⟨(decide ((n_3 : Int) ≤ 15)), (hS.meet [] (by decide) ⟨rfl, trivial⟩ trivial trivial), hM⟩
      · replace hM := cf hb40 hM
        refine wn hS rfl rfl rfl hb40 rfl rfl fun a hS => ?_
        refine wn hS rfl rfl rfl hb40 rfl rfl fun a hS => ?_
        refine wl rfl (ky (v := .bool false) hS (y_pickf hS rfl hb40 rfl) rfl rfl fun a hS => ?_)
        refine wl rfl (ky (v := .bool false) hS (y_assign hS rfl) rfl rfl fun a hS => ?_)
        refine wpList_nil ?_
        try simp only [Exit.then, Exit.inBlock, ↓reduceIte, Nat.reduceEqDiff]
        exact ⟨false, (hS.meet [] (by decide) ⟨rfl, trivial⟩ trivial trivial), hM⟩
    · rintro a w ⟨g39, hS, hM⟩
      unfold ref24_may_j1 at hM
      refine wp_ret ?_
      injection hM with hM
      subst hM
      try simp only [Exit.then, Exit.inBlock, ↓reduceIte, Nat.reduceEqDiff]
      refine ret_ok hS Tryd.results65 (res_tmp hS rfl res_nil) ?_
      exact rfl
  · replace hM := cf hb36 hM
    refine c_f hS rfl hb36 ?_
    refine wp_skip ?_
    try simp only [Exit.then, Exit.inBlock, ↓reduceIte, Nat.reduceEqDiff]
    refine hK8 _ _ ?_
    refine wp_seq_k fun K10 hK10 => ?_
    refine r_list ?_
    refine wl rfl (ky (v := v1) hS (y_move hS rfl) rfl rfl fun a hS => ?_)
    refine wl rfl (ky (v := .int .i64 i_1) hS (y_move hS rfl) rfl rfl fun a hS => ?_)
    obtain ⟨u41, hu41, hM⟩ := bd hM
    refine wl rfl (k_call hS ci33 rfl rfl (ref24_Block_c _ _ hS.dlt rules_ i_1 _ (hS.get 0 rfl) _ hu41) fun _ w hR a hk hA => ?_)
    have he := Eq.symm hR
    subst he
    have hS := hA [] (fun r hr => by cases hr) List.Pairwise.nil
    refine wl rfl (ky (v := .tuple #[.int .i64 u41.1, .int .i64 u41.2]) hS (y_move hS rfl) rfl rfl fun a hS => ?_)
    refine wl rfl (ky (v := .int .i64 u41.1) hS (y_ex hS rfl rfl) rfl rfl fun a hS => ?_)
    refine wl rfl (ky (v := .int .i64 u41.2) hS (y_ex hS rfl rfl) rfl rfl fun a hS => ?_)
    refine wl rfl (ky (v := .int .i64 u41.1) hS (y_assign hS rfl) rfl rfl fun a hS => ?_)
    refine wl rfl (ky (v := .int .i64 u41.2) hS (y_assign hS rfl) rfl rfl fun a hS => ?_)
    refine wpList_nil ?_
    try simp only [Exit.then, Exit.inBlock, ↓reduceIte, Nat.reduceEqDiff]
    refine hK10 _ _ ?_
    refine seq_j (J := fun a w => ∃ (n51 : Int) (b52 : Int), St W0 No T 39 [(3, .int .i64 n51), (10, .int .i64 b52)] [] [] a w ∧ ref24_may_j3 n51 b52 = some y) ?_ ?_
    · skip
      refine wp_seq_k fun K12 hK12 => ?_
      refine r_list ?_
      refine wl rfl (ky (v := v1) hS (y_move hS rfl) rfl rfl fun a hS => ?_)
      refine wl rfl (ky (v := .int .i64 i_1) hS (y_move hS rfl) rfl rfl fun a hS => ?_)
      obtain ⟨e57, he57, hM⟩ := bd hM
      refine wl rfl (k_index (R := R_RuleD) hS sl44 ty48 rfl rfl 0 rfl he57 rfl fun b59 o60 cs62 hr61 a hS => ?_)
      obtain ⟨v58, rfl, hv58⟩ := hr61
      replace hS := hS.fact (SlF R_AskD v58 e57.Asks) hv58
      refine wl rfl (ky (v := .pointer (some ⟨b59, o60 + 0, none⟩)) hS (y_fld hS rfl fl48_0) rfl rfl fun a hS => ?_)
      refine wl rfl (ky (v := .bool e57.Ring) hS (y_loadc (k := 0) hS ty4 1 rfl rfl (fun _ h => h.elim) (us := [.bool e57.Ring]) rfl rfl (fun _ => rfl)) rfl rfl fun a hS => ?_)
      refine wl rfl (ky (v := .bool (!(e57.Ring))) hS (y_not hS rfl) rfl rfl fun a hS => ?_)
      refine wpList_nil ?_
      try simp only [Exit.then, Exit.inBlock, ↓reduceIte, Nat.reduceEqDiff]
      refine hK12 _ _ ?_
      rcases bool2 (!(e57.Ring)) with hb64 | hb64
      · replace hM := ct hb64 hM
        refine c_t hS rfl hb64 ?_
        refine r_list ?_
        refine wl rfl (ky (v := .int .i64 u41.1) hS (y_move hS rfl) rfl rfl fun a hS => ?_)
        refine wl rfl (ky (v := .int .i64 u41.1) hS (y_assign hS rfl) rfl rfl fun a hS => ?_)
        refine wpList_nil ?_
        try simp only [Exit.then, Exit.inBlock, ↓reduceIte, Nat.reduceEqDiff]
        exact ⟨n_3, u41.1, (hS.meet [] (by decide) ⟨rfl, rfl, trivial⟩ trivial trivial), hM⟩
      · replace hM := cf hb64 hM
        refine c_f hS rfl hb64 ?_
        refine wp_skip ?_
        try simp only [Exit.then, Exit.inBlock, ↓reduceIte, Nat.reduceEqDiff]
        exact ⟨n_3, u41.2, (hS.meet [] (by decide) ⟨rfl, rfl, trivial⟩ trivial trivial), hM⟩
    · rintro a w ⟨n51, b52, hS, hM⟩
      unfold ref24_may_j3 at hM
      refine seq_j (J := fun a w => ∃ (g55 : Bool), St W0 No T 39 [(8, .bool g55)] [] [] a w ∧ ref24_may_j2 g55 = some y) ?_ ?_
      · skip
        refine r_list ?_
        refine wl rfl (ky (v := .int .i64 n51) hS (y_move hS rfl) rfl rfl fun a hS => ?_)
        refine wl rfl (ky (v := .bool (decide ((0 : Int) ≤ n51))) hS (y_int hS rfl rfl rfl) rfl rfl fun a hS => ?_)
        refine wl rfl (ky (v := .bool (decide ((0 : Int) ≤ n51))) hS (y_move hS rfl) rfl rfl fun a hS => ?_)
        rcases bool2 (decide ((0 : Int) ≤ n51)) with hb56 | hb56
        · replace hM := ct hb56 hM
          refine wg hS rfl rfl rfl hb56 (ky (v := .int .i64 n51) hS (y_move hS rfl) rfl rfl fun a hS => ?_)
          refine wg hS rfl rfl rfl hb56 (ky (v := .int .i64 b52) hS (y_move hS rfl) rfl rfl fun a hS => ?_)
          refine wg hS rfl rfl rfl hb56 (ky (v := .bool (decide ((n51 : Int) < b52))) hS (y_int hS rfl rfl rfl) rfl rfl fun a hS => ?_)
          refine wl rfl (ky (v := .bool (decide ((n51 : Int) < b52))) hS (y_pickt hS rfl hb56 rfl) rfl rfl fun a hS => ?_)
          refine wl rfl (ky (v := .bool (decide ((n51 : Int) < b52))) hS (y_assign hS rfl) rfl rfl fun a hS => ?_)
          refine wpList_nil ?_
          try simp only [Exit.then, Exit.inBlock, ↓reduceIte, Nat.reduceEqDiff]
          exact ⟨(decide ((n51 : Int) < b52)), (hS.meet [] (by decide) ⟨rfl, trivial⟩ trivial trivial), hM⟩
        · replace hM := cf hb56 hM
          refine wn hS rfl rfl rfl hb56 rfl rfl fun a hS => ?_
          refine wn hS rfl rfl rfl hb56 rfl rfl fun a hS => ?_
          refine wn hS rfl rfl rfl hb56 rfl rfl fun a hS => ?_
          refine wl rfl (ky (v := .bool false) hS (y_pickf hS rfl hb56 rfl) rfl rfl fun a hS => ?_)
          refine wl rfl (ky (v := .bool false) hS (y_assign hS rfl) rfl rfl fun a hS => ?_)
          refine wpList_nil ?_
          try simp only [Exit.then, Exit.inBlock, ↓reduceIte, Nat.reduceEqDiff]
          exact ⟨false, (hS.meet [] (by decide) ⟨rfl, trivial⟩ trivial trivial), hM⟩
      · rintro a w ⟨g55, hS, hM⟩
        unfold ref24_may_j2 at hM
        refine wp_ret ?_
        injection hM with hM
        subst hM
        try simp only [Exit.then, Exit.inBlock, ↓reduceIte, Nat.reduceEqDiff]
        refine ret_ok hS Tryd.results65 (res_tmp hS rfl res_nil) ?_
        exact rfl

noncomputable def ref24_Valid_j1 (rules_ : (List RuleD)) : Option Bool := some (decide (((rules_.length : Int) : Int) ≤ 24))
noncomputable def ref24_Valid_j2 (g2365 : Int) : Option (Fl (Int) (Fl (Unit) Bool)) := some (.go (IntKind.i64.wrap (g2365 + 1)))
noncomputable def ref24_Valid_j3 (g2365 : Int) (g3063 : Bool) : Option (Fl (Int) (Fl (Unit) Bool)) := cond g3063 (some (.out (.out false))) (ref24_Valid_j2 g2365)
noncomputable def ref24_Valid_j4 (g2365 : Int) (e2957 : RuleD) : Option (Fl (Int) (Fl (Unit) Bool)) := cond e2957.Ring (cond ((e2957.Final : Int) != 5) (ref24_Valid_j3 g2365 true) (cond (decide ((e2957.C : Int) < 0)) (ref24_Valid_j3 g2365 true) (cond (decide ((65535 : Int) < e2957.C)) (ref24_Valid_j3 g2365 true) (ref24_Valid_j3 g2365 false)))) (cond (decide ((e2957.Final : Int) < 1)) (ref24_Valid_j3 g2365 true) (cond (decide ((4 : Int) < e2957.Final)) (ref24_Valid_j3 g2365 true) (cond (decide ((e2957.C : Int) < 0)) (ref24_Valid_j3 g2365 true) (ref24_Valid_j3 g2365 (decide ((999 : Int) < e2957.C))))))
noncomputable def ref24_Valid_j5 (g3112 : Int) (g3181 : Bool) : Option (Fl (Int) (Fl (Unit) Bool)) := cond g3181 (some (.out (.out false))) (some (.go (IntKind.i64.wrap (g3112 + 1))))
noncomputable def ref24_Valid_l6 (rules_ : (List RuleD)) (g2365 : Int) (e2957 : RuleD) (g3112 : Int) : Option (Fl (Int) (Fl (Unit) Bool)) := cond (decide ((g3112 : Int) < (e2957.Asks.length : Int))) ((getI e2957.Asks g3112).bind fun e3154 => (ref24_may rules_ g2365 e3154 e3154.N).bind fun u3183 => cond (!(u3183)) (ref24_Valid_j5 g3112 true) (cond e3154.Pick (cond e2957.Ring (ref24_Valid_j5 g3112 true) (cond ((g3112 : Int) == 0) (ref24_Valid_j5 g3112 true) ((ref24_may rules_ g2365 e3154 e3154.Else).bind fun u3189 => cond (!(u3189)) (ref24_Valid_j5 g3112 true) (ref24_Valid_j5 g3112 false)))) (ref24_Valid_j5 g3112 ((e3154.Else : Int) != 0)))) (some (.out (.go ())))
noncomputable def ref24_Valid_l7 (rules_ : (List RuleD)) (g2365 : Int) : Option (Fl (Int) (Fl (Unit) Bool)) := cond (decide ((g2365 : Int) < (rules_.length : Int))) ((getI rules_ g2365).bind fun e2957 => cond (decide ((6 : Int) < (e2957.Asks.length : Int))) (some (.out (.out false))) ((loop (fun s : Int => ref24_Valid_l6 rules_ g2365 e2957 s) 0).bind fun r => Fl.el r (fun s => ref24_Valid_j4 g2365 e2957) (fun y => some (.out (.out y))))) (some (.out (.go ())))
noncomputable def ref24_Valid (rules_ : (List RuleD)) : Option Bool := (loop (fun s : Int => ref24_Valid_l7 rules_ s) 0).bind fun r => Fl.el r (fun s => ref24_Valid_j1 rules_) (fun y => some (y))
set_option maxRecDepth 100000 in
set_option maxHeartbeats 4000000 in
theorem ref24_Valid_c (T : Nat → Prop) (W0 : World) (hT : ∀ k, T k → k < W0.heap.size) (rules_ : (List RuleD)) (v1 : Value) (hv1 : SlR R_RuleD T W0 v1 rules_) (y : Bool) (hM : ref24_Valid rules_ = some y) : Rets Tryd.prog No 31 [v1] W0 (fun v w' => v = .bool y) := by
  refine enter (c := _) Tryd.func31 rfl T 111 Tryd.ntmps31 hT rfl fun a hS => ?_
  replace hS := hS.fact (SlF R_RuleD v1 rules_) (SlR.dn hv1)
  unfold ref24_Valid at hM
  refine wp_seq_k fun K168 hK168 => ?_
  refine r_list ?_
  refine wl rfl (ky (v := .bool false) hS (y_assign hS rfl) rfl rfl fun a hS => ?_)
  refine wpList_nil ?_
  try simp only [Exit.then, Exit.inBlock, ↓reduceIte, Nat.reduceEqDiff]
  refine hK168 _ _ ?_
  refine seq_j (J := fun a w => St W0 No T 111 [(0, v1)] [] [SlF R_RuleD v1 rules_] a w ∧ ref24_Valid_j1 rules_ = some y) ?_ ?_
  · skip
    refine wp_seq_k fun K283 hK283 => ?_
    refine r_list ?_
    refine wl rfl (ky (v := v1) hS (y_move hS rfl) rfl rfl fun a hS => ?_)
    refine wl rfl (ky (v := .int .i64 (rules_.length : Int)) hS (y_len (R := R_RuleD) (xs := rules_) hS sl44 rfl 0 rfl) rfl rfl fun a hS => ?_)
    refine wl rfl (ky (v := .int .i64 0) hS (y_move hS rfl) rfl rfl fun a hS => ?_)
    refine wpList_nil ?_
    try simp only [Exit.then, Exit.inBlock, ↓reduceIte, Nat.reduceEqDiff]
    refine hK283 _ _ ?_
    refine wp_block ?_
    obtain ⟨r1, hl1, hMo1⟩ := bd hM
    refine wp_lp (fun s : Int => ref24_Valid_l7 rules_ s) (fun s a w => ∃ (g2365 : Int), g2365 = s ∧ St W0 No T 111 [(0, v1), (7, v1), (8, .int .i64 (rules_.length : Int)), (9, .int .i64 g2365)] [] [SlF R_RuleD v1 rules_] a w) hl1 ⟨0, rfl, (hS.meet [] (by decide) ⟨rfl, rfl, rfl, rfl, trivial⟩ trivial ⟨⟨0, rfl⟩, trivial⟩)⟩ ?_
    rintro s a w f1 ⟨g2365, rfl, hS⟩ hM hf1
    have hM : ref24_Valid_l7 rules_ g2365 = some f1 := hM
    unfold ref24_Valid_l7 at hM
    refine wp_seq_k fun K396 hK396 => ?_
    refine r_list ?_
    refine wl rfl (ky (v := .bool (decide ((g2365 : Int) < (rules_.length : Int)))) hS (y_int hS rfl rfl rfl) rfl rfl fun a hS => ?_)
    refine wpList_nil ?_
    try simp only [Exit.then, Exit.inBlock, ↓reduceIte, Nat.reduceEqDiff]
    refine hK396 _ _ ?_
    refine wp_seq_k fun K397 hK397 => ?_
    rcases bool2 (decide ((g2365 : Int) < (rules_.length : Int))) with hb2760 | hb2760
    · replace hM := ct hb2760 hM
      refine c_t hS rfl hb2760 ?_
      refine wp_skip ?_
      try simp only [Exit.then, Exit.inBlock, ↓reduceIte, Nat.reduceEqDiff]
      refine hK397 _ _ ?_
      refine seq_j (J := fun a w => St W0 No T 111 [(0, v1), (7, v1), (8, .int .i64 (rules_.length : Int)), (9, .int .i64 g2365)] [] [SlF R_RuleD v1 rules_] a w ∧ ref24_Valid_j2 g2365 = some f1) ?_ ?_
      · skip
        refine wp_block ?_
        refine wp_seq_k fun K425 hK425 => ?_
        refine r_list ?_
        refine wl rfl (ky (v := .int .i64 g2365) hS (y_move hS rfl) rfl rfl fun a hS => ?_)
        obtain ⟨e2957, he2957, hM⟩ := bd hM
        refine wl rfl (k_index (R := R_RuleD) hS sl44 ty48 rfl rfl 0 rfl he2957 rfl fun b2959 o2960 cs2962 hr2961 a hS => ?_)
        obtain ⟨v2958, rfl, hv2958⟩ := hr2961
        replace hS := hS.fact (SlF R_AskD v2958 e2957.Asks) hv2958
        refine wl rfl (ky (v := .agg #[.bool e2957.Ring, v2958, .int .i64 e2957.Final, .int .i64 e2957.C]) hS (y_loadc (k := 0) hS ty48 1 rfl rfl (fun _ h => h.elim) (us := [.bool e2957.Ring, v2958, .int .i64 e2957.Final, .int .i64 e2957.C]) rfl rfl (fun h => by cases h)) rfl rfl fun a hS => ?_)
        refine wl rfl (k_alloc hS ze48 rfl fun b2964 hnb2966 a w hk hS => ?_)
        refine wl rfl (ky (v := .int .i64 g2365) hS (y_assign hS rfl) rfl rfl fun a hS => ?_)
        refine wl rfl (k_store hS rfl rfl (us := [.bool e2957.Ring, v2958, .int .i64 e2957.Final, .int .i64 e2957.C]) rfl ty48 0 rfl rfl rfl (oc rfl (oc (SlR.one ((hS.get 0 rfl) : SlR R_AskD _ _ _ _)) (oc rfl (oc rfl on)))) fun w hk hS => ?_)
        refine wpList_nil ?_
        try simp only [Exit.then, Exit.inBlock, ↓reduceIte, Nat.reduceEqDiff]
        refine hK425 _ _ ?_
        refine wp_seq_k fun K426 hK426 => ?_
        refine wp_seq_k fun K427 hK427 => ?_
        refine r_list ?_
        refine wl rfl (ky (v := .pointer (some ⟨b2964, 0 + 1, none⟩)) hS (y_fld hS rfl fl48_1) rfl rfl fun a hS => ?_)
        refine wl rfl (ky (v := v2958) hS (y_load hS rfl ty46 0 rfl id (us := [v2958]) rfl rfl (fun _ => rfl)) rfl rfl fun a hS => ?_)
        refine wl rfl (ky (v := .int .i64 (e2957.Asks.length : Int)) hS (y_len (R := R_AskD) (xs := e2957.Asks) hS sl46 rfl 0 rfl) rfl rfl fun a hS => ?_)
        refine wl rfl (ky (v := .bool (decide ((6 : Int) < (e2957.Asks.length : Int)))) hS (y_int hS rfl rfl rfl) rfl rfl fun a hS => ?_)
        refine wpList_nil ?_
        try simp only [Exit.then, Exit.inBlock, ↓reduceIte, Nat.reduceEqDiff]
        refine hK427 _ _ ?_
        rcases bool2 (decide ((6 : Int) < (e2957.Asks.length : Int))) with hb2967 | hb2967
        · replace hM := ct hb2967 hM
          refine c_t hS rfl hb2967 ?_
          refine wp_seq_k fun K428 hK428 => ?_
          refine r_list ?_
          refine wl rfl (ky (v := .bool false) hS (y_assign hS rfl) rfl rfl fun a hS => ?_)
          refine wpList_nil ?_
          try simp only [Exit.then, Exit.inBlock, ↓reduceIte, Nat.reduceEqDiff]
          refine hK428 _ _ ?_
          refine wp_ret ?_
          injection hM with hM
          subst hM
          have hr := hf1 _ rfl
          subst hr
          replace hMo1 := el_out hMo1
          have hM := hMo1
          injection hM with hM
          subst hM
          try simp only [Exit.then, Exit.inBlock, ↓reduceIte, Nat.reduceEqDiff]
          refine ret_ok hS Tryd.results31 (res_tmp hS rfl res_nil) ?_
          exact rfl
        · replace hM := cf hb2967 hM
          refine c_f hS rfl hb2967 ?_
          refine wp_skip ?_
          try simp only [Exit.then, Exit.inBlock, ↓reduceIte, Nat.reduceEqDiff]
          refine hK426 _ _ ?_
          refine seq_j (J := fun a w => St W0 No T 111 [(0, v1), (4, .pointer (some ⟨b2964, 0, none⟩)), (7, v1), (8, .int .i64 (rules_.length : Int)), (9, .int .i64 g2365)] [.box b2964 [.bool e2957.Ring, v2958, .int .i64 e2957.Final, .int .i64 e2957.C] 48] [SlF R_RuleD v1 rules_, SlF R_AskD v2958 e2957.Asks] a w ∧ ref24_Valid_j4 g2365 e2957 = some f1) ?_ ?_
          · skip
            refine wp_seq_k fun K441 hK441 => ?_
            refine r_list ?_
            refine wl rfl (ky (v := .pointer (some ⟨b2964, 0 + 1, none⟩)) hS (y_fld hS rfl fl48_1) rfl rfl fun a hS => ?_)
            refine wl rfl (ky (v := v2958) hS (y_load hS rfl ty46 0 rfl id (us := [v2958]) rfl rfl (fun _ => rfl)) rfl rfl fun a hS => ?_)
            refine wl rfl (ky (v := .int .i64 (e2957.Asks.length : Int)) hS (y_len (R := R_AskD) (xs := e2957.Asks) hS sl46 rfl 0 rfl) rfl rfl fun a hS => ?_)
            refine wl rfl (ky (v := .int .i64 0) hS (y_move hS rfl) rfl rfl fun a hS => ?_)
            refine wpList_nil ?_
            try simp only [Exit.then, Exit.inBlock, ↓reduceIte, Nat.reduceEqDiff]
            refine hK441 _ _ ?_
            refine wp_block ?_
            obtain ⟨r2, hl2, hMo2⟩ := bd hM
            refine wp_lp (fun s : Int => ref24_Valid_l6 rules_ g2365 e2957 s) (fun s a w => ∃ (g3112 : Int), g3112 = s ∧ St W0 No T 111 [(0, v1), (3, .int .i64 g2365), (4, .pointer (some ⟨b2964, 0, none⟩)), (7, v1), (8, .int .i64 (rules_.length : Int)), (9, .int .i64 g2365), (19, v2958), (20, .int .i64 (e2957.Asks.length : Int)), (21, .int .i64 g3112)] [.box b2964 [.bool e2957.Ring, v2958, .int .i64 e2957.Final, .int .i64 e2957.C] 48] [SlF R_RuleD v1 rules_, SlF R_AskD v2958 e2957.Asks] a w) hl2 ⟨0, rfl, (hS.meet [0] (by decide) ⟨rfl, rfl, rfl, rfl, rfl, rfl, rfl, rfl, rfl, trivial⟩ ⟨rfl, trivial⟩ ⟨⟨2, rfl⟩, ⟨0, rfl⟩, trivial⟩)⟩ ?_
            rintro s a w f2 ⟨g3112, rfl, hS⟩ hM hf2
            have hM : ref24_Valid_l6 rules_ g2365 e2957 g3112 = some f2 := hM
            unfold ref24_Valid_l6 at hM
            refine wp_seq_k fun K452 hK452 => ?_
            refine r_list ?_
            refine wl rfl (ky (v := .bool (decide ((g3112 : Int) < (e2957.Asks.length : Int)))) hS (y_int hS rfl rfl rfl) rfl rfl fun a hS => ?_)
            refine wpList_nil ?_
            try simp only [Exit.then, Exit.inBlock, ↓reduceIte, Nat.reduceEqDiff]
            refine hK452 _ _ ?_
            refine wp_seq_k fun K453 hK453 => ?_
            rcases bool2 (decide ((g3112 : Int) < (e2957.Asks.length : Int))) with hb3153 | hb3153
            · replace hM := ct hb3153 hM
              refine c_t hS rfl hb3153 ?_
              refine wp_skip ?_
              try simp only [Exit.then, Exit.inBlock, ↓reduceIte, Nat.reduceEqDiff]
              refine hK453 _ _ ?_
              refine wp_seq_k fun K454 hK454 => ?_
              refine wp_block ?_
              refine wp_seq_k fun K455 hK455 => ?_
              refine r_list ?_
              refine wl rfl (ky (v := .int .i64 g3112) hS (y_move hS rfl) rfl rfl fun a hS => ?_)
              obtain ⟨e3154, he3154, hM⟩ := bd hM
              refine wl rfl (k_index (R := R_AskD) hS sl46 ty55 rfl rfl 1 rfl he3154 rfl fun b3155 o3156 cs3158 hr3157 a hS => ?_)
              obtain rfl := hr3157
              refine wl rfl (ky (v := .agg #[.bool e3154.Cell, .bool e3154.Pick, .int .i64 e3154.N, .int .i64 e3154.Else]) hS (y_loadc (k := 0) hS ty55 0 rfl rfl (fun _ h => h.elim) (us := [.bool e3154.Cell, .bool e3154.Pick, .int .i64 e3154.N, .int .i64 e3154.Else]) rfl rfl (fun h => by cases h)) rfl rfl fun a hS => ?_)
              refine wl rfl (k_alloc hS ze55 rfl fun b3160 hnb3162 a w hk hS => ?_)
              refine wl rfl (ky (v := .int .i64 g3112) hS (y_assign hS rfl) rfl rfl fun a hS => ?_)
              refine wl rfl (k_store hS rfl rfl (us := [.bool e3154.Cell, .bool e3154.Pick, .int .i64 e3154.N, .int .i64 e3154.Else]) rfl ty55 0 rfl rfl rfl (oc rfl (oc rfl (oc rfl (oc rfl on)))) fun w hk hS => ?_)
              refine wpList_nil ?_
              try simp only [Exit.then, Exit.inBlock, ↓reduceIte, Nat.reduceEqDiff]
              refine hK455 _ _ ?_
              refine seq_j (J := fun a w => ∃ (g3181 : Bool), St W0 No T 111 [(0, v1), (3, .int .i64 g2365), (4, .pointer (some ⟨b2964, 0, none⟩)), (7, v1), (8, .int .i64 (rules_.length : Int)), (9, .int .i64 g2365), (19, v2958), (20, .int .i64 (e2957.Asks.length : Int)), (21, .int .i64 g3112), (63, .bool g3181)] [.box b2964 [.bool e2957.Ring, v2958, .int .i64 e2957.Final, .int .i64 e2957.C] 48] [SlF R_RuleD v1 rules_, SlF R_AskD v2958 e2957.Asks] a w ∧ ref24_Valid_j5 g3112 g3181 = some f2) ?_ ?_
              · skip
                refine r_list ?_
                refine wl rfl (ky (v := v1) hS (y_move hS rfl) rfl rfl fun a hS => ?_)
                refine wl rfl (ky (v := .int .i64 g2365) hS (y_move hS rfl) rfl rfl fun a hS => ?_)
                refine wl rfl (ky (v := .agg #[.bool e3154.Cell, .bool e3154.Pick, .int .i64 e3154.N, .int .i64 e3154.Else]) hS (y_load hS rfl ty55 0 rfl id (us := [.bool e3154.Cell, .bool e3154.Pick, .int .i64 e3154.N, .int .i64 e3154.Else]) rfl rfl (fun h => by cases h)) rfl rfl fun a hS => ?_)
                refine wl rfl (ky (v := .pointer (some ⟨b3160, 0 + 2, none⟩)) hS (y_fld hS rfl fl55_2) rfl rfl fun a hS => ?_)
                refine wl rfl (ky (v := .int .i64 e3154.N) hS (y_load hS rfl ty3 0 rfl id (us := [.int .i64 e3154.N]) rfl rfl (fun _ => rfl)) rfl rfl fun a hS => ?_)
                obtain ⟨u3183, hu3183, hM⟩ := bd hM
                refine wl rfl (k_call hS ci65 rfl rfl (ref24_may_c _ _ hS.dlt rules_ g2365 e3154 e3154.N _ (hS.get 1 rfl) _ hu3183) fun _ w hR a hk hA => ?_)
                have he := Eq.symm hR
                subst he
                have hS := hA [] (fun r hr => by cases hr) List.Pairwise.nil
                refine wl rfl (ky (v := .bool (!(u3183))) hS (y_not hS rfl) rfl rfl fun a hS => ?_)
                refine wl rfl (ky (v := .bool (!(u3183))) hS (y_move hS rfl) rfl rfl fun a hS => ?_)
                rcases bool2 (!(u3183)) with hb3185 | hb3185
                · replace hM := ct hb3185 hM
                  refine wn hS rfl rfl rfl hb3185 rfl rfl fun a hS => ?_
                  refine wn hS rfl rfl rfl hb3185 rfl rfl fun a hS => ?_
                  refine wn hS rfl rfl rfl hb3185 rfl rfl fun a hS => ?_
                  refine wnu hS rfl rfl rfl rfl rfl fun a hS => ?_
                  refine wnu hS rfl rfl rfl rfl rfl fun a hS => ?_
                  refine wnu hS rfl rfl rfl rfl rfl fun a hS => ?_
                  refine wnu hS rfl rfl rfl rfl rfl fun a hS => ?_
                  refine wnu hS rfl rfl rfl rfl rfl fun a hS => ?_
                  refine wnu hS rfl rfl rfl rfl rfl fun a hS => ?_
                  refine wnu hS rfl rfl rfl rfl rfl fun a hS => ?_
                  refine wnu hS rfl rfl rfl rfl rfl fun a hS => ?_
                  refine wnu hS rfl rfl rfl rfl rfl fun a hS => ?_
                  refine wnu hS rfl rfl rfl rfl rfl fun a hS => ?_
                  refine wnu hS rfl rfl rfl rfl rfl fun a hS => ?_
                  refine wnu hS rfl rfl rfl rfl rfl fun a hS => ?_
                  refine wnu hS rfl rfl rfl rfl rfl fun a hS => ?_
                  refine wnu hS rfl rfl rfl rfl rfl fun a hS => ?_
                  refine wnu hS rfl rfl rfl rfl rfl fun a hS => ?_
                  refine wn hS rfl rfl rfl hb3185 rfl rfl fun a hS => ?_
                  refine wl rfl (ky (v := .bool true) hS (y_pickt hS rfl hb3185 rfl) rfl rfl fun a hS => ?_)
                  refine wl rfl (ky (v := .bool true) hS (y_move hS rfl) rfl rfl fun a hS => ?_)
                  refine wn hS rfl rfl rfl rfl rfl rfl fun a hS => ?_
                  refine wn hS rfl rfl rfl rfl rfl rfl fun a hS => ?_
                  refine wn hS rfl rfl rfl rfl rfl rfl fun a hS => ?_
                  refine wn hS rfl rfl rfl rfl rfl rfl fun a hS => ?_
                  refine wnu hS rfl rfl rfl rfl rfl fun a hS => ?_
                  refine wnu hS rfl rfl rfl rfl rfl fun a hS => ?_
                  refine wnu hS rfl rfl rfl rfl rfl fun a hS => ?_
                  refine wn hS rfl rfl rfl rfl rfl rfl fun a hS => ?_
                  refine wl rfl (ky (v := .bool true) hS (y_pickt hS rfl rfl rfl) rfl rfl fun a hS => ?_)
                  refine wpList_nil ?_
                  try simp only [Exit.then, Exit.inBlock, ↓reduceIte, Nat.reduceEqDiff]
                  exact ⟨true, (hS.meet [1] (by decide) ⟨rfl, rfl, rfl, rfl, rfl, rfl, rfl, rfl, rfl, rfl, trivial⟩ ⟨rfl, trivial⟩ ⟨⟨1, rfl⟩, ⟨2, rfl⟩, trivial⟩), hM⟩
                · replace hM := cf hb3185 hM
                  refine wg hS rfl rfl rfl hb3185 (ky (v := .pointer (some ⟨b3160, 0 + 1, none⟩)) hS (y_fld hS rfl fl55_1) rfl rfl fun a hS => ?_)
                  refine wg hS rfl rfl rfl hb3185 (ky (v := .bool e3154.Pick) hS (y_load hS rfl ty4 0 rfl id (us := [.bool e3154.Pick]) rfl rfl (fun _ => rfl)) rfl rfl fun a hS => ?_)
                  refine wg hS rfl rfl rfl hb3185 (ky (v := .bool e3154.Pick) hS (y_move hS rfl) rfl rfl fun a hS => ?_)
                  rcases bool2 (e3154.Pick) with hb3186 | hb3186
                  · replace hM := ct hb3186 hM
                    refine wg hS rfl rfl rfl hb3186 (ky (v := .pointer (some ⟨b2964, 0 + 0, none⟩)) hS (y_fld hS rfl fl48_0) rfl rfl fun a hS => ?_)
                    refine wg hS rfl rfl rfl hb3186 (ky (v := .bool e2957.Ring) hS (y_load hS rfl ty4 1 rfl id (us := [.bool e2957.Ring]) rfl rfl (fun _ => rfl)) rfl rfl fun a hS => ?_)
                    refine wg hS rfl rfl rfl hb3186 (ky (v := .bool e2957.Ring) hS (y_move hS rfl) rfl rfl fun a hS => ?_)
                    rcases bool2 (e2957.Ring) with hb3187 | hb3187
                    · replace hM := ct hb3187 hM
                      refine wn hS rfl rfl rfl hb3187 rfl rfl fun a hS => ?_
                      refine wn hS rfl rfl rfl hb3187 rfl rfl fun a hS => ?_
                      refine wg hS rfl rfl rfl hb3186 (ky (v := .bool true) hS (y_pickt hS rfl hb3187 rfl) rfl rfl fun a hS => ?_)
                      refine wg hS rfl rfl rfl hb3186 (ky (v := .bool true) hS (y_move hS rfl) rfl rfl fun a hS => ?_)
                      refine wn hS rfl rfl rfl rfl rfl rfl fun a hS => ?_
                      refine wn hS rfl rfl rfl rfl rfl rfl fun a hS => ?_
                      refine wn hS rfl rfl rfl rfl rfl rfl fun a hS => ?_
                      refine wn hS rfl rfl rfl rfl rfl rfl fun a hS => ?_
                      refine wn hS rfl rfl rfl rfl rfl rfl fun a hS => ?_
                      refine wn hS rfl rfl rfl rfl rfl rfl fun a hS => ?_
                      refine wn hS rfl rfl rfl rfl rfl rfl fun a hS => ?_
                      refine wg hS rfl rfl rfl hb3186 (ky (v := .bool true) hS (y_pickt hS rfl rfl rfl) rfl rfl fun a hS => ?_)
                      refine wg hS rfl rfl rfl hb3185 (ky (v := .bool true) hS (y_pickt hS rfl hb3186 rfl) rfl rfl fun a hS => ?_)
                      refine wl rfl (ky (v := .bool true) hS (y_pickf hS rfl hb3185 rfl) rfl rfl fun a hS => ?_)
                      refine wl rfl (ky (v := .bool true) hS (y_move hS rfl) rfl rfl fun a hS => ?_)
                      refine wn hS rfl rfl rfl rfl rfl rfl fun a hS => ?_
                      refine wn hS rfl rfl rfl rfl rfl rfl fun a hS => ?_
                      refine wn hS rfl rfl rfl rfl rfl rfl fun a hS => ?_
                      refine wn hS rfl rfl rfl rfl rfl rfl fun a hS => ?_
                      refine wnu hS rfl rfl rfl rfl rfl fun a hS => ?_
                      refine wnu hS rfl rfl rfl rfl rfl fun a hS => ?_
                      refine wnu hS rfl rfl rfl rfl rfl fun a hS => ?_
                      refine wn hS rfl rfl rfl rfl rfl rfl fun a hS => ?_
                      refine wl rfl (ky (v := .bool true) hS (y_pickt hS rfl rfl rfl) rfl rfl fun a hS => ?_)
                      refine wpList_nil ?_
                      try simp only [Exit.then, Exit.inBlock, ↓reduceIte, Nat.reduceEqDiff]
                      exact ⟨true, (hS.meet [1] (by decide) ⟨rfl, rfl, rfl, rfl, rfl, rfl, rfl, rfl, rfl, rfl, trivial⟩ ⟨rfl, trivial⟩ ⟨⟨1, rfl⟩, ⟨2, rfl⟩, trivial⟩), hM⟩
                    · replace hM := cf hb3187 hM
                      refine wg hS rfl rfl rfl hb3187 (ky (v := .int .i64 g3112) hS (y_move hS rfl) rfl rfl fun a hS => ?_)
                      refine wg hS rfl rfl rfl hb3187 (ky (v := .bool ((g3112 : Int) == 0)) hS (y_int hS rfl rfl rfl) rfl rfl fun a hS => ?_)
                      refine wg hS rfl rfl rfl hb3186 (ky (v := .bool ((g3112 : Int) == 0)) hS (y_pickf hS rfl hb3187 rfl) rfl rfl fun a hS => ?_)
                      refine wg hS rfl rfl rfl hb3186 (ky (v := .bool ((g3112 : Int) == 0)) hS (y_move hS rfl) rfl rfl fun a hS => ?_)
                      rcases bool2 ((g3112 : Int) == 0) with hb3188 | hb3188
                      · replace hM := ct hb3188 hM
                        refine wn hS rfl rfl rfl hb3188 rfl rfl fun a hS => ?_
                        refine wn hS rfl rfl rfl hb3188 rfl rfl fun a hS => ?_
                        refine wn hS rfl rfl rfl hb3188 rfl rfl fun a hS => ?_
                        refine wn hS rfl rfl rfl hb3188 rfl rfl fun a hS => ?_
                        refine wn hS rfl rfl rfl hb3188 rfl rfl fun a hS => ?_
                        refine wn hS rfl rfl rfl hb3188 rfl rfl fun a hS => ?_
                        refine wn hS rfl rfl rfl hb3188 rfl rfl fun a hS => ?_
                        refine wg hS rfl rfl rfl hb3186 (ky (v := .bool true) hS (y_pickt hS rfl hb3188 rfl) rfl rfl fun a hS => ?_)
                        refine wg hS rfl rfl rfl hb3185 (ky (v := .bool true) hS (y_pickt hS rfl hb3186 rfl) rfl rfl fun a hS => ?_)
                        refine wl rfl (ky (v := .bool true) hS (y_pickf hS rfl hb3185 rfl) rfl rfl fun a hS => ?_)
                        refine wl rfl (ky (v := .bool true) hS (y_move hS rfl) rfl rfl fun a hS => ?_)
                        refine wn hS rfl rfl rfl rfl rfl rfl fun a hS => ?_
                        refine wn hS rfl rfl rfl rfl rfl rfl fun a hS => ?_
                        refine wn hS rfl rfl rfl rfl rfl rfl fun a hS => ?_
                        refine wn hS rfl rfl rfl rfl rfl rfl fun a hS => ?_
                        refine wnu hS rfl rfl rfl rfl rfl fun a hS => ?_
                        refine wnu hS rfl rfl rfl rfl rfl fun a hS => ?_
                        refine wnu hS rfl rfl rfl rfl rfl fun a hS => ?_
                        refine wn hS rfl rfl rfl rfl rfl rfl fun a hS => ?_
                        refine wl rfl (ky (v := .bool true) hS (y_pickt hS rfl rfl rfl) rfl rfl fun a hS => ?_)
                        refine wpList_nil ?_
                        try simp only [Exit.then, Exit.inBlock, ↓reduceIte, Nat.reduceEqDiff]
                        exact ⟨true, (hS.meet [1] (by decide) ⟨rfl, rfl, rfl, rfl, rfl, rfl, rfl, rfl, rfl, rfl, trivial⟩ ⟨rfl, trivial⟩ ⟨⟨1, rfl⟩, ⟨2, rfl⟩, trivial⟩), hM⟩
                      · replace hM := cf hb3188 hM
                        refine wg hS rfl rfl rfl hb3188 (ky (v := v1) hS (y_move hS rfl) rfl rfl fun a hS => ?_)
                        refine wg hS rfl rfl rfl hb3188 (ky (v := .int .i64 g2365) hS (y_move hS rfl) rfl rfl fun a hS => ?_)
                        refine wg hS rfl rfl rfl hb3188 (ky (v := .agg #[.bool e3154.Cell, .bool e3154.Pick, .int .i64 e3154.N, .int .i64 e3154.Else]) hS (y_load hS rfl ty55 0 rfl id (us := [.bool e3154.Cell, .bool e3154.Pick, .int .i64 e3154.N, .int .i64 e3154.Else]) rfl rfl (fun h => by cases h)) rfl rfl fun a hS => ?_)
                        refine wg hS rfl rfl rfl hb3188 (ky (v := .pointer (some ⟨b3160, 0 + 3, none⟩)) hS (y_fld hS rfl fl55_3) rfl rfl fun a hS => ?_)
                        refine wg hS rfl rfl rfl hb3188 (ky (v := .int .i64 e3154.Else) hS (y_load hS rfl ty3 0 rfl id (us := [.int .i64 e3154.Else]) rfl rfl (fun _ => rfl)) rfl rfl fun a hS => ?_)
                        obtain ⟨u3189, hu3189, hM⟩ := bd hM
                        refine wg hS rfl rfl rfl hb3188 (k_call hS ci65 rfl rfl (ref24_may_c _ _ hS.dlt rules_ g2365 e3154 e3154.Else _ (hS.get 1 rfl) _ hu3189) fun _ w hR a hk hA => ?_)
                        have he := Eq.symm hR
                        subst he
                        have hS := hA [] (fun r hr => by cases hr) List.Pairwise.nil
                        refine wg hS rfl rfl rfl hb3188 (ky (v := .bool (!(u3189))) hS (y_not hS rfl) rfl rfl fun a hS => ?_)
                        refine wg hS rfl rfl rfl hb3186 (ky (v := .bool (!(u3189))) hS (y_pickf hS rfl hb3188 rfl) rfl rfl fun a hS => ?_)
                        refine wg hS rfl rfl rfl hb3185 (ky (v := .bool (!(u3189))) hS (y_pickt hS rfl hb3186 rfl) rfl rfl fun a hS => ?_)
                        refine wl rfl (ky (v := .bool (!(u3189))) hS (y_pickf hS rfl hb3185 rfl) rfl rfl fun a hS => ?_)
                        refine wl rfl (ky (v := .bool (!(u3189))) hS (y_move hS rfl) rfl rfl fun a hS => ?_)
                        rcases bool2 (!(u3189)) with hb3191 | hb3191
                        · replace hM := ct hb3191 hM
                          refine wn hS rfl rfl rfl hb3191 rfl rfl fun a hS => ?_
                          refine wn hS rfl rfl rfl hb3191 rfl rfl fun a hS => ?_
                          refine wn hS rfl rfl rfl hb3191 rfl rfl fun a hS => ?_
                          refine wn hS rfl rfl rfl hb3191 rfl rfl fun a hS => ?_
                          refine wnu hS rfl rfl rfl rfl rfl fun a hS => ?_
                          refine wnu hS rfl rfl rfl rfl rfl fun a hS => ?_
                          refine wnu hS rfl rfl rfl rfl rfl fun a hS => ?_
                          refine wn hS rfl rfl rfl hb3191 rfl rfl fun a hS => ?_
                          refine wl rfl (ky (v := .bool true) hS (y_pickt hS rfl hb3191 rfl) rfl rfl fun a hS => ?_)
                          refine wpList_nil ?_
                          try simp only [Exit.then, Exit.inBlock, ↓reduceIte, Nat.reduceEqDiff]
                          exact ⟨true, (hS.meet [1] (by decide) ⟨rfl, rfl, rfl, rfl, rfl, rfl, rfl, rfl, rfl, rfl, trivial⟩ ⟨rfl, trivial⟩ ⟨⟨1, rfl⟩, ⟨2, rfl⟩, trivial⟩), hM⟩
                        · replace hM := cf hb3191 hM
                          refine wg hS rfl rfl rfl hb3191 (ky (v := .pointer (some ⟨b3160, 0 + 1, none⟩)) hS (y_fld hS rfl fl55_1) rfl rfl fun a hS => ?_)
                          refine wg hS rfl rfl rfl hb3191 (ky (v := .bool e3154.Pick) hS (y_load hS rfl ty4 0 rfl id (us := [.bool e3154.Pick]) rfl rfl (fun _ => rfl)) rfl rfl fun a hS => ?_)
                          refine wg hS rfl rfl rfl hb3191 (ky (v := .bool (!(e3154.Pick))) hS (y_not hS rfl) rfl rfl fun a hS => ?_)
                          refine wg hS rfl rfl rfl hb3191 (ky (v := .bool (!(e3154.Pick))) hS (y_move hS rfl) rfl rfl fun a hS => ?_)
                          refine wn hS rfl rfl rfl (nt hb3186) rfl rfl fun a hS => ?_
                          refine wn hS rfl rfl rfl (nt hb3186) rfl rfl fun a hS => ?_
                          refine wn hS rfl rfl rfl (nt hb3186) rfl rfl fun a hS => ?_
                          refine wg hS rfl rfl rfl hb3191 (ky (v := .bool false) hS (y_pickf hS rfl (nt hb3186) rfl) rfl rfl fun a hS => ?_)
                          refine wl rfl (ky (v := .bool false) hS (y_pickf hS rfl hb3191 rfl) rfl rfl fun a hS => ?_)
                          refine wpList_nil ?_
                          try simp only [Exit.then, Exit.inBlock, ↓reduceIte, Nat.reduceEqDiff]
                          exact ⟨false, (hS.meet [1] (by decide) ⟨rfl, rfl, rfl, rfl, rfl, rfl, rfl, rfl, rfl, rfl, trivial⟩ ⟨rfl, trivial⟩ ⟨⟨1, rfl⟩, ⟨2, rfl⟩, trivial⟩), hM⟩
                  · replace hM := cf hb3186 hM
                    refine wn hS rfl rfl rfl hb3186 rfl rfl fun a hS => ?_
                    refine wn hS rfl rfl rfl hb3186 rfl rfl fun a hS => ?_
                    refine wn hS rfl rfl rfl hb3186 rfl rfl fun a hS => ?_
                    refine wnu hS rfl rfl rfl rfl rfl fun a hS => ?_
                    refine wnu hS rfl rfl rfl rfl rfl fun a hS => ?_
                    refine wn hS rfl rfl rfl hb3186 rfl rfl fun a hS => ?_
                    refine wn hS rfl rfl rfl hb3186 rfl rfl fun a hS => ?_
                    refine wnu hS rfl rfl rfl rfl rfl fun a hS => ?_
                    refine wnu hS rfl rfl rfl rfl rfl fun a hS => ?_
                    refine wnu hS rfl rfl rfl rfl rfl fun a hS => ?_
                    refine wnu hS rfl rfl rfl rfl rfl fun a hS => ?_
                    refine wnu hS rfl rfl rfl rfl rfl fun a hS => ?_
                    refine wnu hS rfl rfl rfl rfl rfl fun a hS => ?_
                    refine wnu hS rfl rfl rfl rfl rfl fun a hS => ?_
                    refine wn hS rfl rfl rfl hb3186 rfl rfl fun a hS => ?_
                    refine wg hS rfl rfl rfl hb3185 (ky (v := .bool false) hS (y_pickf hS rfl hb3186 rfl) rfl rfl fun a hS => ?_)
                    refine wl rfl (ky (v := .bool false) hS (y_pickf hS rfl hb3185 rfl) rfl rfl fun a hS => ?_)
                    refine wl rfl (ky (v := .bool false) hS (y_move hS rfl) rfl rfl fun a hS => ?_)
                    refine wg hS rfl rfl rfl rfl (ky (v := .pointer (some ⟨b3160, 0 + 1, none⟩)) hS (y_fld hS rfl fl55_1) rfl rfl fun a hS => ?_)
                    refine wg hS rfl rfl rfl rfl (ky (v := .bool e3154.Pick) hS (y_load hS rfl ty4 0 rfl id (us := [.bool e3154.Pick]) rfl rfl (fun _ => rfl)) rfl rfl fun a hS => ?_)
                    refine wg hS rfl rfl rfl rfl (ky (v := .bool (!(e3154.Pick))) hS (y_not hS rfl) rfl rfl fun a hS => ?_)
                    refine wg hS rfl rfl rfl rfl (ky (v := .bool (!(e3154.Pick))) hS (y_move hS rfl) rfl rfl fun a hS => ?_)
                    refine wg hS rfl rfl rfl (nf hb3186) (ky (v := .pointer (some ⟨b3160, 0 + 3, none⟩)) hS (y_fld hS rfl fl55_3) rfl rfl fun a hS => ?_)
                    refine wg hS rfl rfl rfl (nf hb3186) (ky (v := .int .i64 e3154.Else) hS (y_load hS rfl ty3 0 rfl id (us := [.int .i64 e3154.Else]) rfl rfl (fun _ => rfl)) rfl rfl fun a hS => ?_)
                    refine wg hS rfl rfl rfl (nf hb3186) (ky (v := .bool ((e3154.Else : Int) != 0)) hS (y_int hS rfl rfl rfl) rfl rfl fun a hS => ?_)
                    refine wg hS rfl rfl rfl rfl (ky (v := .bool ((e3154.Else : Int) != 0)) hS (y_pickt hS rfl (nf hb3186) rfl) rfl rfl fun a hS => ?_)
                    refine wl rfl (ky (v := .bool ((e3154.Else : Int) != 0)) hS (y_pickf hS rfl rfl rfl) rfl rfl fun a hS => ?_)
                    refine wpList_nil ?_
                    try simp only [Exit.then, Exit.inBlock, ↓reduceIte, Nat.reduceEqDiff]
                    exact ⟨((e3154.Else : Int) != 0), (hS.meet [1] (by decide) ⟨rfl, rfl, rfl, rfl, rfl, rfl, rfl, rfl, rfl, rfl, trivial⟩ ⟨rfl, trivial⟩ ⟨⟨1, rfl⟩, ⟨2, rfl⟩, trivial⟩), hM⟩
              · rintro a w ⟨g3181, hS, hM⟩
                unfold ref24_Valid_j5 at hM
                rcases bool2 (g3181) with hb3182 | hb3182
                · replace hM := ct hb3182 hM
                  refine c_t hS rfl hb3182 ?_
                  refine wp_seq_k fun K456 hK456 => ?_
                  refine r_list ?_
                  refine wl rfl (ky (v := .bool false) hS (y_assign hS rfl) rfl rfl fun a hS => ?_)
                  refine wpList_nil ?_
                  try simp only [Exit.then, Exit.inBlock, ↓reduceIte, Nat.reduceEqDiff]
                  refine hK456 _ _ ?_
                  refine wp_ret ?_
                  injection hM with hM
                  subst hM
                  have hr := hf2 _ rfl
                  subst hr
                  replace hMo2 := el_out hMo2
                  have hM := hMo2
                  injection hM with hM
                  subst hM
                  have hr := hf1 _ rfl
                  subst hr
                  replace hMo1 := el_out hMo1
                  have hM := hMo1
                  injection hM with hM
                  subst hM
                  try simp only [Exit.then, Exit.inBlock, ↓reduceIte, Nat.reduceEqDiff]
                  refine ret_ok hS Tryd.results31 (res_tmp hS rfl res_nil) ?_
                  exact rfl
                · replace hM := cf hb3182 hM
                  refine c_f hS rfl hb3182 ?_
                  refine wp_skip ?_
                  try simp only [Exit.then, Exit.inBlock, ↓reduceIte, Nat.reduceEqDiff]
                  refine hK454 _ _ ?_
                  refine r_list ?_
                  refine wl rfl (ky (v := .int .i64 (IntKind.i64.wrap (g3112 + 1))) hS (y_int hS rfl rfl rfl) rfl rfl fun a hS => ?_)
                  refine wl rfl (ky (v := .int .i64 (IntKind.i64.wrap (g3112 + 1))) hS (y_move hS rfl) rfl rfl fun a hS => ?_)
                  refine wpList_nil ?_
                  try simp only [Exit.then, Exit.inBlock, ↓reduceIte, Nat.reduceEqDiff]
                  exact ⟨IntKind.i64.wrap (g3112 + 1), (Option.some.inj hM).symm, (IntKind.i64.wrap (g3112 + 1)), rfl, (hS.meet [0] (by decide) ⟨rfl, rfl, rfl, rfl, rfl, rfl, rfl, rfl, rfl, trivial⟩ ⟨rfl, trivial⟩ ⟨⟨0, rfl⟩, ⟨1, rfl⟩, trivial⟩)⟩
            · replace hM := cf hb3153 hM
              refine c_f hS rfl hb3153 ?_
              refine wp_exit ?_
              try simp only [Exit.then, Exit.inBlock, ↓reduceIte, Nat.reduceEqDiff]
              injection hM with hM
              subst hM
              have hr := hf2 _ rfl
              subst hr
              replace hMo2 := el_go hMo2
              have hM : ref24_Valid_j4 g2365 e2957 = some f1 := hMo2
              exact ⟨(hS.meet [0] (by decide) ⟨rfl, rfl, rfl, rfl, rfl, trivial⟩ ⟨rfl, trivial⟩ ⟨⟨0, rfl⟩, ⟨1, rfl⟩, trivial⟩), hM⟩
          · rintro a w ⟨hS, hM⟩
            unfold ref24_Valid_j4 at hM
            refine seq_j (J := fun a w => ∃ (g3063 : Bool), St W0 No T 111 [(0, v1), (7, v1), (8, .int .i64 (rules_.length : Int)), (9, .int .i64 g2365), (106, .bool g3063)] [] [SlF R_RuleD v1 rules_] a w ∧ ref24_Valid_j3 g2365 g3063 = some f1) ?_ ?_
            · skip
              refine r_list ?_
              refine wl rfl (ky (v := .pointer (some ⟨b2964, 0 + 0, none⟩)) hS (y_fld hS rfl fl48_0) rfl rfl fun a hS => ?_)
              refine wl rfl (ky (v := .bool e2957.Ring) hS (y_load hS rfl ty4 0 rfl id (us := [.bool e2957.Ring]) rfl rfl (fun _ => rfl)) rfl rfl fun a hS => ?_)
              refine wl rfl (ky (v := .bool e2957.Ring) hS (y_move hS rfl) rfl rfl fun a hS => ?_)
              rcases bool2 (e2957.Ring) with hb3065 | hb3065
              · replace hM := ct hb3065 hM
                refine wg hS rfl rfl rfl hb3065 (ky (v := .pointer (some ⟨b2964, 0 + 2, none⟩)) hS (y_fld hS rfl fl48_2) rfl rfl fun a hS => ?_)
                refine wg hS rfl rfl rfl hb3065 (ky (v := .int .i64 e2957.Final) hS (y_load hS rfl ty3 0 rfl id (us := [.int .i64 e2957.Final]) rfl rfl (fun _ => rfl)) rfl rfl fun a hS => ?_)
                refine wg hS rfl rfl rfl hb3065 (ky (v := .bool ((e2957.Final : Int) != 5)) hS (y_int hS rfl rfl rfl) rfl rfl fun a hS => ?_)
                refine wg hS rfl rfl rfl hb3065 (ky (v := .bool ((e2957.Final : Int) != 5)) hS (y_move hS rfl) rfl rfl fun a hS => ?_)
                rcases bool2 ((e2957.Final : Int) != 5) with hb3066 | hb3066
                · replace hM := ct hb3066 hM
                  refine wn hS rfl rfl rfl hb3066 rfl rfl fun a hS => ?_
                  refine wn hS rfl rfl rfl hb3066 rfl rfl fun a hS => ?_
                  refine wn hS rfl rfl rfl hb3066 rfl rfl fun a hS => ?_
                  refine wg hS rfl rfl rfl hb3065 (ky (v := .bool true) hS (y_pickt hS rfl hb3066 rfl) rfl rfl fun a hS => ?_)
                  refine wg hS rfl rfl rfl hb3065 (ky (v := .bool true) hS (y_move hS rfl) rfl rfl fun a hS => ?_)
                  refine wn hS rfl rfl rfl rfl rfl rfl fun a hS => ?_
                  refine wn hS rfl rfl rfl rfl rfl rfl fun a hS => ?_
                  refine wn hS rfl rfl rfl rfl rfl rfl fun a hS => ?_
                  refine wg hS rfl rfl rfl hb3065 (ky (v := .bool true) hS (y_pickt hS rfl rfl rfl) rfl rfl fun a hS => ?_)
                  refine wl rfl (ky (v := .bool true) hS (y_pickt hS rfl hb3065 rfl) rfl rfl fun a hS => ?_)
                  refine wl rfl (ky (v := .bool true) hS (y_move hS rfl) rfl rfl fun a hS => ?_)
                  refine wn hS rfl rfl rfl rfl rfl rfl fun a hS => ?_
                  refine wn hS rfl rfl rfl rfl rfl rfl fun a hS => ?_
                  refine wn hS rfl rfl rfl rfl rfl rfl fun a hS => ?_
                  refine wn hS rfl rfl rfl rfl rfl rfl fun a hS => ?_
                  refine wnu hS rfl rfl rfl rfl rfl fun a hS => ?_
                  refine wnu hS rfl rfl rfl rfl rfl fun a hS => ?_
                  refine wnu hS rfl rfl rfl rfl rfl fun a hS => ?_
                  refine wnu hS rfl rfl rfl rfl rfl fun a hS => ?_
                  refine wnu hS rfl rfl rfl rfl rfl fun a hS => ?_
                  refine wnu hS rfl rfl rfl rfl rfl fun a hS => ?_
                  refine wnu hS rfl rfl rfl rfl rfl fun a hS => ?_
                  refine wnu hS rfl rfl rfl rfl rfl fun a hS => ?_
                  refine wnu hS rfl rfl rfl rfl rfl fun a hS => ?_
                  refine wnu hS rfl rfl rfl rfl rfl fun a hS => ?_
                  refine wnu hS rfl rfl rfl rfl rfl fun a hS => ?_
                  refine wnu hS rfl rfl rfl rfl rfl fun a hS => ?_
                  refine wnu hS rfl rfl rfl rfl rfl fun a hS => ?_
                  refine wnu hS rfl rfl rfl rfl rfl fun a hS => ?_
                  refine wnu hS rfl rfl rfl rfl rfl fun a hS => ?_
                  refine wnu hS rfl rfl rfl rfl rfl fun a hS => ?_
                  refine wnu hS rfl rfl rfl rfl rfl fun a hS => ?_
                  refine wnu hS rfl rfl rfl rfl rfl fun a hS => ?_
                  refine wn hS rfl rfl rfl rfl rfl rfl fun a hS => ?_
                  refine wl rfl (ky (v := .bool true) hS (y_pickt hS rfl rfl rfl) rfl rfl fun a hS => ?_)
                  refine wpList_nil ?_
                  try simp only [Exit.then, Exit.inBlock, ↓reduceIte, Nat.reduceEqDiff]
                  exact ⟨true, (hS.meet [] (by decide) ⟨rfl, rfl, rfl, rfl, rfl, trivial⟩ trivial ⟨⟨0, rfl⟩, trivial⟩), hM⟩
                · replace hM := cf hb3066 hM
                  refine wg hS rfl rfl rfl hb3066 (ky (v := .pointer (some ⟨b2964, 0 + 3, none⟩)) hS (y_fld hS rfl fl48_3) rfl rfl fun a hS => ?_)
                  refine wg hS rfl rfl rfl hb3066 (ky (v := .int .i64 e2957.C) hS (y_load hS rfl ty3 0 rfl id (us := [.int .i64 e2957.C]) rfl rfl (fun _ => rfl)) rfl rfl fun a hS => ?_)
                  refine wg hS rfl rfl rfl hb3066 (ky (v := .bool (decide ((e2957.C : Int) < 0))) hS (y_int hS rfl rfl rfl) rfl rfl fun a hS => ?_)
                  refine wg hS rfl rfl rfl hb3065 (ky (v := .bool (decide ((e2957.C : Int) < 0))) hS (y_pickf hS rfl hb3066 rfl) rfl rfl fun a hS => ?_)
                  refine wg hS rfl rfl rfl hb3065 (ky (v := .bool (decide ((e2957.C : Int) < 0))) hS (y_move hS rfl) rfl rfl fun a hS => ?_)
                  rcases bool2 (decide ((e2957.C : Int) < 0)) with hb3067 | hb3067
                  · replace hM := ct hb3067 hM
                    refine wn hS rfl rfl rfl hb3067 rfl rfl fun a hS => ?_
                    refine wn hS rfl rfl rfl hb3067 rfl rfl fun a hS => ?_
                    refine wn hS rfl rfl rfl hb3067 rfl rfl fun a hS => ?_
                    refine wg hS rfl rfl rfl hb3065 (ky (v := .bool true) hS (y_pickt hS rfl hb3067 rfl) rfl rfl fun a hS => ?_)
                    refine wl rfl (ky (v := .bool true) hS (y_pickt hS rfl hb3065 rfl) rfl rfl fun a hS => ?_)
                    refine wl rfl (ky (v := .bool true) hS (y_move hS rfl) rfl rfl fun a hS => ?_)
                    refine wn hS rfl rfl rfl rfl rfl rfl fun a hS => ?_
                    refine wn hS rfl rfl rfl rfl rfl rfl fun a hS => ?_
                    refine wn hS rfl rfl rfl rfl rfl rfl fun a hS => ?_
                    refine wn hS rfl rfl rfl rfl rfl rfl fun a hS => ?_
                    refine wnu hS rfl rfl rfl rfl rfl fun a hS => ?_
                    refine wnu hS rfl rfl rfl rfl rfl fun a hS => ?_
                    refine wnu hS rfl rfl rfl rfl rfl fun a hS => ?_
                    refine wnu hS rfl rfl rfl rfl rfl fun a hS => ?_
                    refine wnu hS rfl rfl rfl rfl rfl fun a hS => ?_
                    refine wnu hS rfl rfl rfl rfl rfl fun a hS => ?_
                    refine wnu hS rfl rfl rfl rfl rfl fun a hS => ?_
                    refine wnu hS rfl rfl rfl rfl rfl fun a hS => ?_
                    refine wnu hS rfl rfl rfl rfl rfl fun a hS => ?_
                    refine wnu hS rfl rfl rfl rfl rfl fun a hS => ?_
                    refine wnu hS rfl rfl rfl rfl rfl fun a hS => ?_
                    refine wnu hS rfl rfl rfl rfl rfl fun a hS => ?_
                    refine wnu hS rfl rfl rfl rfl rfl fun a hS => ?_
                    refine wnu hS rfl rfl rfl rfl rfl fun a hS => ?_
                    refine wnu hS rfl rfl rfl rfl rfl fun a hS => ?_
                    refine wnu hS rfl rfl rfl rfl rfl fun a hS => ?_
                    refine wnu hS rfl rfl rfl rfl rfl fun a hS => ?_
                    refine wnu hS rfl rfl rfl rfl rfl fun a hS => ?_
                    refine wn hS rfl rfl rfl rfl rfl rfl fun a hS => ?_
                    refine wl rfl (ky (v := .bool true) hS (y_pickt hS rfl rfl rfl) rfl rfl fun a hS => ?_)
                    refine wpList_nil ?_
                    try simp only [Exit.then, Exit.inBlock, ↓reduceIte, Nat.reduceEqDiff]
                    exact ⟨true, (hS.meet [] (by decide) ⟨rfl, rfl, rfl, rfl, rfl, trivial⟩ trivial ⟨⟨0, rfl⟩, trivial⟩), hM⟩
                  · replace hM := cf hb3067 hM
                    refine wg hS rfl rfl rfl hb3067 (ky (v := .pointer (some ⟨b2964, 0 + 3, none⟩)) hS (y_fld hS rfl fl48_3) rfl rfl fun a hS => ?_)
                    refine wg hS rfl rfl rfl hb3067 (ky (v := .int .i64 e2957.C) hS (y_load hS rfl ty3 0 rfl id (us := [.int .i64 e2957.C]) rfl rfl (fun _ => rfl)) rfl rfl fun a hS => ?_)
                    refine wg hS rfl rfl rfl hb3067 (ky (v := .bool (decide ((65535 : Int) < e2957.C))) hS (y_int hS rfl rfl rfl) rfl rfl fun a hS => ?_)
                    refine wg hS rfl rfl rfl hb3065 (ky (v := .bool (decide ((65535 : Int) < e2957.C))) hS (y_pickf hS rfl hb3067 rfl) rfl rfl fun a hS => ?_)
                    refine wl rfl (ky (v := .bool (decide ((65535 : Int) < e2957.C))) hS (y_pickt hS rfl hb3065 rfl) rfl rfl fun a hS => ?_)
                    refine wl rfl (ky (v := .bool (decide ((65535 : Int) < e2957.C))) hS (y_move hS rfl) rfl rfl fun a hS => ?_)
                    rcases bool2 (decide ((65535 : Int) < e2957.C)) with hb3068 | hb3068
                    · replace hM := ct hb3068 hM
                      refine wn hS rfl rfl rfl hb3068 rfl rfl fun a hS => ?_
                      refine wn hS rfl rfl rfl hb3068 rfl rfl fun a hS => ?_
                      refine wn hS rfl rfl rfl hb3068 rfl rfl fun a hS => ?_
                      refine wn hS rfl rfl rfl hb3068 rfl rfl fun a hS => ?_
                      refine wnu hS rfl rfl rfl rfl rfl fun a hS => ?_
                      refine wnu hS rfl rfl rfl rfl rfl fun a hS => ?_
                      refine wnu hS rfl rfl rfl rfl rfl fun a hS => ?_
                      refine wnu hS rfl rfl rfl rfl rfl fun a hS => ?_
                      refine wnu hS rfl rfl rfl rfl rfl fun a hS => ?_
                      refine wnu hS rfl rfl rfl rfl rfl fun a hS => ?_
                      refine wnu hS rfl rfl rfl rfl rfl fun a hS => ?_
                      refine wnu hS rfl rfl rfl rfl rfl fun a hS => ?_
                      refine wnu hS rfl rfl rfl rfl rfl fun a hS => ?_
                      refine wnu hS rfl rfl rfl rfl rfl fun a hS => ?_
                      refine wnu hS rfl rfl rfl rfl rfl fun a hS => ?_
                      refine wnu hS rfl rfl rfl rfl rfl fun a hS => ?_
                      refine wnu hS rfl rfl rfl rfl rfl fun a hS => ?_
                      refine wnu hS rfl rfl rfl rfl rfl fun a hS => ?_
                      refine wnu hS rfl rfl rfl rfl rfl fun a hS => ?_
                      refine wnu hS rfl rfl rfl rfl rfl fun a hS => ?_
                      refine wnu hS rfl rfl rfl rfl rfl fun a hS => ?_
                      refine wnu hS rfl rfl rfl rfl rfl fun a hS => ?_
                      refine wn hS rfl rfl rfl hb3068 rfl rfl fun a hS => ?_
                      refine wl rfl (ky (v := .bool true) hS (y_pickt hS rfl hb3068 rfl) rfl rfl fun a hS => ?_)
                      refine wpList_nil ?_
                      try simp only [Exit.then, Exit.inBlock, ↓reduceIte, Nat.reduceEqDiff]
                      exact ⟨true, (hS.meet [] (by decide) ⟨rfl, rfl, rfl, rfl, rfl, trivial⟩ trivial ⟨⟨0, rfl⟩, trivial⟩), hM⟩
                    · replace hM := cf hb3068 hM
                      refine wg hS rfl rfl rfl hb3068 (ky (v := .pointer (some ⟨b2964, 0 + 0, none⟩)) hS (y_fld hS rfl fl48_0) rfl rfl fun a hS => ?_)
                      refine wg hS rfl rfl rfl hb3068 (ky (v := .bool e2957.Ring) hS (y_load hS rfl ty4 0 rfl id (us := [.bool e2957.Ring]) rfl rfl (fun _ => rfl)) rfl rfl fun a hS => ?_)
                      refine wg hS rfl rfl rfl hb3068 (ky (v := .bool (!(e2957.Ring))) hS (y_not hS rfl) rfl rfl fun a hS => ?_)
                      refine wg hS rfl rfl rfl hb3068 (ky (v := .bool (!(e2957.Ring))) hS (y_move hS rfl) rfl rfl fun a hS => ?_)
                      refine wn hS rfl rfl rfl (nt hb3065) rfl rfl fun a hS => ?_
                      refine wn hS rfl rfl rfl (nt hb3065) rfl rfl fun a hS => ?_
                      refine wn hS rfl rfl rfl (nt hb3065) rfl rfl fun a hS => ?_
                      refine wn hS rfl rfl rfl (nt hb3065) rfl rfl fun a hS => ?_
                      refine wnu hS rfl rfl rfl rfl rfl fun a hS => ?_
                      refine wnu hS rfl rfl rfl rfl rfl fun a hS => ?_
                      refine wnu hS rfl rfl rfl rfl rfl fun a hS => ?_
                      refine wn hS rfl rfl rfl (nt hb3065) rfl rfl fun a hS => ?_
                      refine wn hS rfl rfl rfl (nt hb3065) rfl rfl fun a hS => ?_
                      refine wnu hS rfl rfl rfl rfl rfl fun a hS => ?_
                      refine wnu hS rfl rfl rfl rfl rfl fun a hS => ?_
                      refine wnu hS rfl rfl rfl rfl rfl fun a hS => ?_
                      refine wn hS rfl rfl rfl (nt hb3065) rfl rfl fun a hS => ?_
                      refine wn hS rfl rfl rfl (nt hb3065) rfl rfl fun a hS => ?_
                      refine wnu hS rfl rfl rfl rfl rfl fun a hS => ?_
                      refine wnu hS rfl rfl rfl rfl rfl fun a hS => ?_
                      refine wnu hS rfl rfl rfl rfl rfl fun a hS => ?_
                      refine wn hS rfl rfl rfl (nt hb3065) rfl rfl fun a hS => ?_
                      refine wg hS rfl rfl rfl hb3068 (ky (v := .bool false) hS (y_pickf hS rfl (nt hb3065) rfl) rfl rfl fun a hS => ?_)
                      refine wl rfl (ky (v := .bool false) hS (y_pickf hS rfl hb3068 rfl) rfl rfl fun a hS => ?_)
                      refine wpList_nil ?_
                      try simp only [Exit.then, Exit.inBlock, ↓reduceIte, Nat.reduceEqDiff]
                      exact ⟨false, (hS.meet [] (by decide) ⟨rfl, rfl, rfl, rfl, rfl, trivial⟩ trivial ⟨⟨0, rfl⟩, trivial⟩), hM⟩
              · replace hM := cf hb3065 hM
                refine wn hS rfl rfl rfl hb3065 rfl rfl fun a hS => ?_
                refine wn hS rfl rfl rfl hb3065 rfl rfl fun a hS => ?_
                refine wn hS rfl rfl rfl hb3065 rfl rfl fun a hS => ?_
                refine wn hS rfl rfl rfl hb3065 rfl rfl fun a hS => ?_
                refine wnu hS rfl rfl rfl rfl rfl fun a hS => ?_
                refine wnu hS rfl rfl rfl rfl rfl fun a hS => ?_
                refine wnu hS rfl rfl rfl rfl rfl fun a hS => ?_
                refine wn hS rfl rfl rfl hb3065 rfl rfl fun a hS => ?_
                refine wn hS rfl rfl rfl hb3065 rfl rfl fun a hS => ?_
                refine wnu hS rfl rfl rfl rfl rfl fun a hS => ?_
                refine wnu hS rfl rfl rfl rfl rfl fun a hS => ?_
                refine wnu hS rfl rfl rfl rfl rfl fun a hS => ?_
                refine wn hS rfl rfl rfl hb3065 rfl rfl fun a hS => ?_
                refine wl rfl (ky (v := .bool false) hS (y_pickf hS rfl hb3065 rfl) rfl rfl fun a hS => ?_)
                refine wl rfl (ky (v := .bool false) hS (y_move hS rfl) rfl rfl fun a hS => ?_)
                refine wg hS rfl rfl rfl rfl (ky (v := .pointer (some ⟨b2964, 0 + 0, none⟩)) hS (y_fld hS rfl fl48_0) rfl rfl fun a hS => ?_)
                refine wg hS rfl rfl rfl rfl (ky (v := .bool e2957.Ring) hS (y_load hS rfl ty4 0 rfl id (us := [.bool e2957.Ring]) rfl rfl (fun _ => rfl)) rfl rfl fun a hS => ?_)
                refine wg hS rfl rfl rfl rfl (ky (v := .bool (!(e2957.Ring))) hS (y_not hS rfl) rfl rfl fun a hS => ?_)
                refine wg hS rfl rfl rfl rfl (ky (v := .bool (!(e2957.Ring))) hS (y_move hS rfl) rfl rfl fun a hS => ?_)
                refine wg hS rfl rfl rfl (nf hb3065) (ky (v := .pointer (some ⟨b2964, 0 + 2, none⟩)) hS (y_fld hS rfl fl48_2) rfl rfl fun a hS => ?_)
                refine wg hS rfl rfl rfl (nf hb3065) (ky (v := .int .i64 e2957.Final) hS (y_load hS rfl ty3 0 rfl id (us := [.int .i64 e2957.Final]) rfl rfl (fun _ => rfl)) rfl rfl fun a hS => ?_)
                refine wg hS rfl rfl rfl (nf hb3065) (ky (v := .bool (decide ((e2957.Final : Int) < 1))) hS (y_int hS rfl rfl rfl) rfl rfl fun a hS => ?_)
                refine wg hS rfl rfl rfl (nf hb3065) (ky (v := .bool (decide ((e2957.Final : Int) < 1))) hS (y_move hS rfl) rfl rfl fun a hS => ?_)
                rcases bool2 (decide ((e2957.Final : Int) < 1)) with hb3069 | hb3069
                · replace hM := ct hb3069 hM
                  refine wn hS rfl rfl rfl hb3069 rfl rfl fun a hS => ?_
                  refine wn hS rfl rfl rfl hb3069 rfl rfl fun a hS => ?_
                  refine wn hS rfl rfl rfl hb3069 rfl rfl fun a hS => ?_
                  refine wg hS rfl rfl rfl (nf hb3065) (ky (v := .bool true) hS (y_pickt hS rfl hb3069 rfl) rfl rfl fun a hS => ?_)
                  refine wg hS rfl rfl rfl (nf hb3065) (ky (v := .bool true) hS (y_move hS rfl) rfl rfl fun a hS => ?_)
                  refine wn hS rfl rfl rfl rfl rfl rfl fun a hS => ?_
                  refine wn hS rfl rfl rfl rfl rfl rfl fun a hS => ?_
                  refine wn hS rfl rfl rfl rfl rfl rfl fun a hS => ?_
                  refine wg hS rfl rfl rfl (nf hb3065) (ky (v := .bool true) hS (y_pickt hS rfl rfl rfl) rfl rfl fun a hS => ?_)
                  refine wg hS rfl rfl rfl (nf hb3065) (ky (v := .bool true) hS (y_move hS rfl) rfl rfl fun a hS => ?_)
                  refine wn hS rfl rfl rfl rfl rfl rfl fun a hS => ?_
                  refine wn hS rfl rfl rfl rfl rfl rfl fun a hS => ?_
                  refine wn hS rfl rfl rfl rfl rfl rfl fun a hS => ?_
                  refine wg hS rfl rfl rfl (nf hb3065) (ky (v := .bool true) hS (y_pickt hS rfl rfl rfl) rfl rfl fun a hS => ?_)
                  refine wg hS rfl rfl rfl rfl (ky (v := .bool true) hS (y_pickt hS rfl (nf hb3065) rfl) rfl rfl fun a hS => ?_)
                  refine wl rfl (ky (v := .bool true) hS (y_pickf hS rfl rfl rfl) rfl rfl fun a hS => ?_)
                  refine wpList_nil ?_
                  try simp only [Exit.then, Exit.inBlock, ↓reduceIte, Nat.reduceEqDiff]
                  exact ⟨true, (hS.meet [] (by decide) ⟨rfl, rfl, rfl, rfl, rfl, trivial⟩ trivial ⟨⟨0, rfl⟩, trivial⟩), hM⟩
                · replace hM := cf hb3069 hM
                  refine wg hS rfl rfl rfl hb3069 (ky (v := .pointer (some ⟨b2964, 0 + 2, none⟩)) hS (y_fld hS rfl fl48_2) rfl rfl fun a hS => ?_)
                  refine wg hS rfl rfl rfl hb3069 (ky (v := .int .i64 e2957.Final) hS (y_load hS rfl ty3 0 rfl id (us := [.int .i64 e2957.Final]) rfl rfl (fun _ => rfl)) rfl rfl fun a hS => ?_)
                  refine wg hS rfl rfl rfl hb3069 (ky (v := .bool (decide ((4 : Int) < e2957.Final))) hS (y_int hS rfl rfl rfl) rfl rfl fun a hS => ?_)
                  refine wg hS rfl rfl rfl (nf hb3065) (ky (v := .bool (decide ((4 : Int) < e2957.Final))) hS (y_pickf hS rfl hb3069 rfl) rfl rfl fun a hS => ?_)
                  refine wg hS rfl rfl rfl (nf hb3065) (ky (v := .bool (decide ((4 : Int) < e2957.Final))) hS (y_move hS rfl) rfl rfl fun a hS => ?_)
                  rcases bool2 (decide ((4 : Int) < e2957.Final)) with hb3070 | hb3070
                  · replace hM := ct hb3070 hM
                    refine wn hS rfl rfl rfl hb3070 rfl rfl fun a hS => ?_
                    refine wn hS rfl rfl rfl hb3070 rfl rfl fun a hS => ?_
                    refine wn hS rfl rfl rfl hb3070 rfl rfl fun a hS => ?_
                    refine wg hS rfl rfl rfl (nf hb3065) (ky (v := .bool true) hS (y_pickt hS rfl hb3070 rfl) rfl rfl fun a hS => ?_)
                    refine wg hS rfl rfl rfl (nf hb3065) (ky (v := .bool true) hS (y_move hS rfl) rfl rfl fun a hS => ?_)
                    refine wn hS rfl rfl rfl rfl rfl rfl fun a hS => ?_
                    refine wn hS rfl rfl rfl rfl rfl rfl fun a hS => ?_
                    refine wn hS rfl rfl rfl rfl rfl rfl fun a hS => ?_
                    refine wg hS rfl rfl rfl (nf hb3065) (ky (v := .bool true) hS (y_pickt hS rfl rfl rfl) rfl rfl fun a hS => ?_)
                    refine wg hS rfl rfl rfl rfl (ky (v := .bool true) hS (y_pickt hS rfl (nf hb3065) rfl) rfl rfl fun a hS => ?_)
                    refine wl rfl (ky (v := .bool true) hS (y_pickf hS rfl rfl rfl) rfl rfl fun a hS => ?_)
                    refine wpList_nil ?_
                    try simp only [Exit.then, Exit.inBlock, ↓reduceIte, Nat.reduceEqDiff]
                    exact ⟨true, (hS.meet [] (by decide) ⟨rfl, rfl, rfl, rfl, rfl, trivial⟩ trivial ⟨⟨0, rfl⟩, trivial⟩), hM⟩
                  · replace hM := cf hb3070 hM
                    refine wg hS rfl rfl rfl hb3070 (ky (v := .pointer (some ⟨b2964, 0 + 3, none⟩)) hS (y_fld hS rfl fl48_3) rfl rfl fun a hS => ?_)
                    refine wg hS rfl rfl rfl hb3070 (ky (v := .int .i64 e2957.C) hS (y_load hS rfl ty3 0 rfl id (us := [.int .i64 e2957.C]) rfl rfl (fun _ => rfl)) rfl rfl fun a hS => ?_)
                    refine wg hS rfl rfl rfl hb3070 (ky (v := .bool (decide ((e2957.C : Int) < 0))) hS (y_int hS rfl rfl rfl) rfl rfl fun a hS => ?_)
                    refine wg hS rfl rfl rfl (nf hb3065) (ky (v := .bool (decide ((e2957.C : Int) < 0))) hS (y_pickf hS rfl hb3070 rfl) rfl rfl fun a hS => ?_)
                    refine wg hS rfl rfl rfl (nf hb3065) (ky (v := .bool (decide ((e2957.C : Int) < 0))) hS (y_move hS rfl) rfl rfl fun a hS => ?_)
                    rcases bool2 (decide ((e2957.C : Int) < 0)) with hb3071 | hb3071
                    · replace hM := ct hb3071 hM
                      refine wn hS rfl rfl rfl hb3071 rfl rfl fun a hS => ?_
                      refine wn hS rfl rfl rfl hb3071 rfl rfl fun a hS => ?_
                      refine wn hS rfl rfl rfl hb3071 rfl rfl fun a hS => ?_
                      refine wg hS rfl rfl rfl (nf hb3065) (ky (v := .bool true) hS (y_pickt hS rfl hb3071 rfl) rfl rfl fun a hS => ?_)
                      refine wg hS rfl rfl rfl rfl (ky (v := .bool true) hS (y_pickt hS rfl (nf hb3065) rfl) rfl rfl fun a hS => ?_)
                      refine wl rfl (ky (v := .bool true) hS (y_pickf hS rfl rfl rfl) rfl rfl fun a hS => ?_)
                      refine wpList_nil ?_
                      try simp only [Exit.then, Exit.inBlock, ↓reduceIte, Nat.reduceEqDiff]
                      exact ⟨true, (hS.meet [] (by decide) ⟨rfl, rfl, rfl, rfl, rfl, trivial⟩ trivial ⟨⟨0, rfl⟩, trivial⟩), hM⟩
                    · replace hM := cf hb3071 hM
                      refine wg hS rfl rfl rfl hb3071 (ky (v := .pointer (some ⟨b2964, 0 + 3, none⟩)) hS (y_fld hS rfl fl48_3) rfl rfl fun a hS => ?_)
                      refine wg hS rfl rfl rfl hb3071 (ky (v := .int .i64 e2957.C) hS (y_load hS rfl ty3 0 rfl id (us := [.int .i64 e2957.C]) rfl rfl (fun _ => rfl)) rfl rfl fun a hS => ?_)
                      refine wg hS rfl rfl rfl hb3071 (ky (v := .bool (decide ((999 : Int) < e2957.C))) hS (y_int hS rfl rfl rfl) rfl rfl fun a hS => ?_)
                      refine wg hS rfl rfl rfl (nf hb3065) (ky (v := .bool (decide ((999 : Int) < e2957.C))) hS (y_pickf hS rfl hb3071 rfl) rfl rfl fun a hS => ?_)
                      refine wg hS rfl rfl rfl rfl (ky (v := .bool (decide ((999 : Int) < e2957.C))) hS (y_pickt hS rfl (nf hb3065) rfl) rfl rfl fun a hS => ?_)
                      refine wl rfl (ky (v := .bool (decide ((999 : Int) < e2957.C))) hS (y_pickf hS rfl rfl rfl) rfl rfl fun a hS => ?_)
                      refine wpList_nil ?_
                      try simp only [Exit.then, Exit.inBlock, ↓reduceIte, Nat.reduceEqDiff]
                      exact ⟨(decide ((999 : Int) < e2957.C)), (hS.meet [] (by decide) ⟨rfl, rfl, rfl, rfl, rfl, trivial⟩ trivial ⟨⟨0, rfl⟩, trivial⟩), hM⟩
            · rintro a w ⟨g3063, hS, hM⟩
              unfold ref24_Valid_j3 at hM
              rcases bool2 (g3063) with hb3064 | hb3064
              · replace hM := ct hb3064 hM
                refine c_t hS rfl hb3064 ?_
                refine wp_seq_k fun K440 hK440 => ?_
                refine r_list ?_
                refine wl rfl (ky (v := .bool false) hS (y_assign hS rfl) rfl rfl fun a hS => ?_)
                refine wpList_nil ?_
                try simp only [Exit.then, Exit.inBlock, ↓reduceIte, Nat.reduceEqDiff]
                refine hK440 _ _ ?_
                refine wp_ret ?_
                injection hM with hM
                subst hM
                have hr := hf1 _ rfl
                subst hr
                replace hMo1 := el_out hMo1
                have hM := hMo1
                injection hM with hM
                subst hM
                try simp only [Exit.then, Exit.inBlock, ↓reduceIte, Nat.reduceEqDiff]
                refine ret_ok hS Tryd.results31 (res_tmp hS rfl res_nil) ?_
                exact rfl
              · replace hM := cf hb3064 hM
                refine c_f hS rfl hb3064 ?_
                refine wp_skip ?_
                try simp only [Exit.then, Exit.inBlock, ↓reduceIte, Nat.reduceEqDiff]
                exact ⟨(hS.meet [] (by decide) ⟨rfl, rfl, rfl, rfl, trivial⟩ trivial ⟨⟨0, rfl⟩, trivial⟩), hM⟩
      · rintro a w ⟨hS, hM⟩
        unfold ref24_Valid_j2 at hM
        refine r_list ?_
        refine wl rfl (ky (v := .int .i64 (IntKind.i64.wrap (g2365 + 1))) hS (y_int hS rfl rfl rfl) rfl rfl fun a hS => ?_)
        refine wl rfl (ky (v := .int .i64 (IntKind.i64.wrap (g2365 + 1))) hS (y_move hS rfl) rfl rfl fun a hS => ?_)
        refine wpList_nil ?_
        try simp only [Exit.then, Exit.inBlock, ↓reduceIte, Nat.reduceEqDiff]
        exact ⟨IntKind.i64.wrap (g2365 + 1), (Option.some.inj hM).symm, (IntKind.i64.wrap (g2365 + 1)), rfl, (hS.meet [] (by decide) ⟨rfl, rfl, rfl, rfl, trivial⟩ trivial ⟨⟨0, rfl⟩, trivial⟩)⟩
    · replace hM := cf hb2760 hM
      refine c_f hS rfl hb2760 ?_
      refine wp_exit ?_
      try simp only [Exit.then, Exit.inBlock, ↓reduceIte, Nat.reduceEqDiff]
      injection hM with hM
      subst hM
      have hr := hf1 _ rfl
      subst hr
      replace hMo1 := el_go hMo1
      have hM : ref24_Valid_j1 rules_ = some y := hMo1
      exact ⟨(hS.meet [] (by decide) ⟨rfl, trivial⟩ trivial ⟨⟨0, rfl⟩, trivial⟩), hM⟩
  · rintro a w ⟨hS, hM⟩
    unfold ref24_Valid_j1 at hM
    refine wp_seq_k fun K282 hK282 => ?_
    refine r_list ?_
    refine wl rfl (ky (v := v1) hS (y_move hS rfl) rfl rfl fun a hS => ?_)
    refine wl rfl (ky (v := .int .i64 (rules_.length : Int)) hS (y_len (R := R_RuleD) (xs := rules_) hS sl44 rfl 0 rfl) rfl rfl fun a hS => ?_)
    refine wl rfl (ky (v := .bool (decide (((rules_.length : Int) : Int) ≤ 24))) hS (y_int hS rfl rfl rfl) rfl rfl fun a hS => ?_)
    refine wl rfl (ky (v := .bool (decide (((rules_.length : Int) : Int) ≤ 24))) hS (y_assign hS rfl) rfl rfl fun a hS => ?_)
    refine wpList_nil ?_
    try simp only [Exit.then, Exit.inBlock, ↓reduceIte, Nat.reduceEqDiff]
    refine hK282 _ _ ?_
    refine wp_ret ?_
    injection hM with hM
    subst hM
    try simp only [Exit.then, Exit.inBlock, ↓reduceIte, Nat.reduceEqDiff]
    refine ret_ok hS Tryd.results31 (res_tmp hS rfl res_nil) ?_
    exact rfl
end Go.Proofs.YthpeklnhkkadjaaDoor
