/- What functions of the program compute; that they do. -/
import Derived.Test.YtpobppjicoikoaaDoorTD3
import Derived.Test.YtpobppjicoikoaaDoorD1
import Derived.Test.YtpobppjicoikoaaDoorD2
set_option linter.unusedVariables false
set_option linter.unusedSimpArgs false
namespace Go.Proofs.YtpobppjicoikoaaDoor
open Go.RowKit
noncomputable def law23_KeyKinds_j1 : Option Bool := (law23_awake).bind fun u1213 => some (u1213)
noncomputable def law23_KeyKinds_l2 (n_2 : Int) (rules_ : (List RuleD)) (u1215 : Int) (u1217 : Int) (g1258 : (List Int)) (g1262 : Int) : Option (Fl ((List Int) × Int) (Fl (Unit) Bool)) := cond (decide ((g1262 : Int) < (([n_2, IntKind.i64.wrap (u1215 - 1), u1217]).length : Int))) ((getI g1258 g1262).bind fun e1297 => (key_Cell e1297).bind fun u1314 => (ref23_Cell e1297).bind fun u1316 => cond (!((u1314.Kind : Int) == u1316.Kind && u1314.Text.toList == u1316.Text.toList)) (some (.out (.out false))) ((key_Of rules_ e1297).bind fun u1319 => (ref23_Of rules_ e1297).bind fun u1321 => cond (!((u1319.Kind : Int) == u1321.Kind && u1319.Text.toList == u1321.Text.toList)) (some (.out (.out false))) (some (.go (g1258, IntKind.i64.wrap (g1262 + 1)))))) (some (.out (.go ())))
noncomputable def law23_KeyKinds_j3 (n_2 : Int) (rules_ : (List RuleD)) : Option Bool := (mill_Mod n_2 103).bind fun u1215 => (mill_Mod n_2 (IntKind.i64.wrap ((rules_.length : Int) + 1))).bind fun u1217 => (loop (fun s : (List Int) × Int => law23_KeyKinds_l2 n_2 rules_ u1215 u1217 s.1 s.2) ([n_2, IntKind.i64.wrap (u1215 - 1), u1217], 0)).bind fun r => Fl.el r (fun s => law23_KeyKinds_j1) (fun y => some (y))
noncomputable def law23_KeyKinds_l4 (g1408 : (List KeyD)) (g1412 : Int) (g1503 : Int) : Option (Fl (Int) (Fl (Unit) Bool)) := cond (decide ((g1503 : Int) < g1412)) ((getI g1408 g1503).bind fun e1595 => (key_Valid e1595).bind fun u1663 => (ref23_Valid e1595).bind fun u1665 => cond (u1663 != u1665) (some (.out (.out false))) ((key_Number e1595).bind fun u1668 => (ref23_Number e1595).bind fun u1670 => cond ((u1668 : Int) != u1670) (some (.out (.out false))) ((key_Input e1595).bind fun u1673 => (ref23_Input e1595).bind fun u1675 => cond (u1673 != u1675) (some (.out (.out false))) ((key_Cyclic e1595).bind fun u1678 => (ref23_Cyclic e1595).bind fun u1680 => cond (u1678 != u1680) (some (.out (.out false))) (some (.go (IntKind.i64.wrap (g1503 + 1)))))))) (some (.out (.go ())))
noncomputable def law23_KeyKinds_j5 (n_2 : Int) (rules_ : (List RuleD)) (g1408 : (List KeyD)) (g1412 : Int) : Option Bool := (loop (fun s : Int => law23_KeyKinds_l4 g1408 g1412 s) 0).bind fun r => Fl.el r (fun s => law23_KeyKinds_j3 n_2 rules_) (fun y => some (y))
noncomputable def law23_KeyKinds (k_0 : KeyD) (kind_ : Int) (n_2 : Int) (rules_ : (List RuleD)) (text_ : ByteArray) : Option Bool := cond (decide ((5000 : Int) < (k_0.Text.size : Int))) ((law23_awake).bind fun u812 => some (u812)) (cond (decide ((100 : Int) < (text_.size : Int))) ((law23_awake).bind fun u815 => some (u815)) (cond (decide ((200 : Int) < (rules_.length : Int))) ((law23_awake).bind fun u818 => some (u818)) ((mill_Mod kind_ 36).bind fun u1704 => (mill_Mod kind_ 36).bind fun u1706 => (mill_Mod kind_ 3).bind fun u1708 => (mill_Mod kind_ 3).bind fun u1710 => (mill_Mod n_2 7).bind fun u1712 => (getI ([(ByteArray.mk #[48]), (ByteArray.mk #[57, 57]), (ByteArray.mk #[49, 48, 48]), (ByteArray.mk #[48, 55]), (ByteArray.mk #[45, 49]), (ByteArray.mk #[43, 49]), (ByteArray.mk #[49, 32])]) u1712).bind fun e1716 => law23_KeyKinds_j5 n_2 rules_ ([k_0, (KeyD.mk (IntKind.i64.wrap (u1704 - 1)) k_0.Text), (KeyD.mk (IntKind.i64.wrap (u1706 - 1)) (ByteArray.mk #[])), (KeyD.mk (IntKind.i64.wrap (30 + u1708)) text_), (KeyD.mk (IntKind.i64.wrap (30 + u1710)) e1716)]) (([k_0, (KeyD.mk (IntKind.i64.wrap (u1704 - 1)) k_0.Text), (KeyD.mk (IntKind.i64.wrap (u1706 - 1)) (ByteArray.mk #[])), (KeyD.mk (IntKind.i64.wrap (30 + u1708)) text_), (KeyD.mk (IntKind.i64.wrap (30 + u1710)) e1716)]).length : Int))))
set_option maxRecDepth 100000 in
set_option maxHeartbeats 4000000 in
theorem law23_KeyKinds_c (T : Nat → Prop) (W0 : World) (hT : ∀ k, T k → k < W0.heap.size) (hLv : LvP T W0) (k_0 : KeyD) (kind_ : Int) (n_2 : Int) (rules_ : (List RuleD)) (text_ : ByteArray) (v1 : Value) (hv1 : SlR R_RuleD T W0 v1 rules_) (y : Bool) (hM : law23_KeyKinds k_0 kind_ n_2 rules_ text_ = some y) : Rets Tryd.prog No 5 [.agg #[.int .i64 k_0.Kind, .string k_0.Text], .int .i64 kind_, .int .i64 n_2, v1, .string text_] W0 (fun v w' => v = .bool y) := by
  refine enter (c := _) Tryd.func5 rfl T 119 Tryd.ntmps5 hT rfl fun a hS => ?_
  replace hS := hS.fact LvF (LvP.dn hLv)
  replace hS := hS.fact (SlF R_RuleD v1 rules_) (SlR.dn hv1)
  unfold law23_KeyKinds at hM
  refine wp_seq_k fun K74 hK74 => ?_
  refine r_list ?_
  refine wl rfl (k_box hS rfl (cs := [.int .i64 k_0.Kind, .string k_0.Text]) rfl rfl fun b806 hnb808 a w hk hS => ?_)
  refine wl rfl (ky (v := .bool false) hS (y_assign hS rfl) rfl rfl fun a hS => ?_)
  refine wpList_nil ?_
  try simp only [Exit.then, Exit.inBlock, ↓reduceIte, Nat.reduceEqDiff]
  refine hK74 _ _ ?_
  refine wp_seq_k fun K75 hK75 => ?_
  refine wp_seq_k fun K76 hK76 => ?_
  refine r_list ?_
  refine wl rfl (ky (v := .pointer (some ⟨b806, 0 + 1, none⟩)) hS (y_fld hS rfl fl28_1) rfl rfl fun a hS => ?_)
  refine wl rfl (ky (v := .string k_0.Text) hS (y_load hS rfl ty9 0 rfl id (us := [.string k_0.Text]) rfl rfl (fun _ => rfl)) rfl rfl fun a hS => ?_)
  refine wl rfl (ky (v := .int .i64 (k_0.Text.size : Int)) hS (y_lens hS Tryd.underlying9 rfl) rfl rfl fun a hS => ?_)
  refine wl rfl (ky (v := .bool (decide ((5000 : Int) < (k_0.Text.size : Int)))) hS (y_int hS rfl rfl rfl) rfl rfl fun a hS => ?_)
  refine wl rfl (ky (v := .bool (decide ((5000 : Int) < (k_0.Text.size : Int)))) hS (y_move hS rfl) rfl rfl fun a hS => ?_)
  rcases bool2 (decide ((5000 : Int) < (k_0.Text.size : Int))) with hb811 | hb811
  · replace hM := ct hb811 hM
    refine wn hS rfl rfl rfl hb811 rfl rfl fun a hS => ?_
    refine wn hS rfl rfl rfl hb811 rfl rfl fun a hS => ?_
    refine wn hS rfl rfl rfl hb811 rfl rfl fun a hS => ?_
    refine wl rfl (ky (v := .bool true) hS (y_pickt hS rfl hb811 rfl) rfl rfl fun a hS => ?_)
    refine wl rfl (ky (v := .bool true) hS (y_move hS rfl) rfl rfl fun a hS => ?_)
    refine wn hS rfl rfl rfl rfl rfl rfl fun a hS => ?_
    refine wn hS rfl rfl rfl rfl rfl rfl fun a hS => ?_
    refine wn hS rfl rfl rfl rfl rfl rfl fun a hS => ?_
    refine wl rfl (ky (v := .bool true) hS (y_pickt hS rfl rfl rfl) rfl rfl fun a hS => ?_)
    refine wpList_nil ?_
    try simp only [Exit.then, Exit.inBlock, ↓reduceIte, Nat.reduceEqDiff]
    refine hK76 _ _ ?_
    refine c_t hS rfl rfl ?_
    refine wp_seq_k fun K77 hK77 => ?_
    refine r_list ?_
    obtain ⟨u812, hu812, hM⟩ := bd hM
    refine wl rfl (k_call hS ci14 rfl rfl (law23_awake_c _ _ hS.dlt (hS.get 1 rfl) _ hu812) fun _ w hR a hk hA => ?_)
    have he := Eq.symm hR
    subst he
    have hS := hA [] (fun r hr => by cases hr) List.Pairwise.nil
    refine wl rfl (ky (v := .bool u812) hS (y_assign hS rfl) rfl rfl fun a hS => ?_)
    refine wpList_nil ?_
    try simp only [Exit.then, Exit.inBlock, ↓reduceIte, Nat.reduceEqDiff]
    refine hK77 _ _ ?_
    refine wp_ret ?_
    injection hM with hM
    subst hM
    try simp only [Exit.then, Exit.inBlock, ↓reduceIte, Nat.reduceEqDiff]
    refine ret_ok hS Tryd.results5 (res_tmp hS rfl res_nil) ?_
    exact rfl
  · replace hM := cf hb811 hM
    refine wg hS rfl rfl rfl hb811 (ky (v := .string text_) hS (y_move hS rfl) rfl rfl fun a hS => ?_)
    refine wg hS rfl rfl rfl hb811 (ky (v := .int .i64 (text_.size : Int)) hS (y_lens hS Tryd.underlying9 rfl) rfl rfl fun a hS => ?_)
    refine wg hS rfl rfl rfl hb811 (ky (v := .bool (decide ((100 : Int) < (text_.size : Int)))) hS (y_int hS rfl rfl rfl) rfl rfl fun a hS => ?_)
    refine wl rfl (ky (v := .bool (decide ((100 : Int) < (text_.size : Int)))) hS (y_pickf hS rfl hb811 rfl) rfl rfl fun a hS => ?_)
    refine wl rfl (ky (v := .bool (decide ((100 : Int) < (text_.size : Int)))) hS (y_move hS rfl) rfl rfl fun a hS => ?_)
    rcases bool2 (decide ((100 : Int) < (text_.size : Int))) with hb814 | hb814
    · replace hM := ct hb814 hM
      refine wn hS rfl rfl rfl hb814 rfl rfl fun a hS => ?_
      refine wn hS rfl rfl rfl hb814 rfl rfl fun a hS => ?_
      refine wn hS rfl rfl rfl hb814 rfl rfl fun a hS => ?_
      refine wl rfl (ky (v := .bool true) hS (y_pickt hS rfl hb814 rfl) rfl rfl fun a hS => ?_)
      refine wpList_nil ?_
      try simp only [Exit.then, Exit.inBlock, ↓reduceIte, Nat.reduceEqDiff]
      refine hK76 _ _ ?_
      refine c_t hS rfl rfl ?_
      refine wp_seq_k fun K78 hK78 => ?_
      refine r_list ?_
      obtain ⟨u815, hu815, hM⟩ := bd hM
      refine wl rfl (k_call hS ci14 rfl rfl (law23_awake_c _ _ hS.dlt (hS.get 1 rfl) _ hu815) fun _ w hR a hk hA => ?_)
      have he := Eq.symm hR
      subst he
      have hS := hA [] (fun r hr => by cases hr) List.Pairwise.nil
      refine wl rfl (ky (v := .bool u815) hS (y_assign hS rfl) rfl rfl fun a hS => ?_)
      refine wpList_nil ?_
      try simp only [Exit.then, Exit.inBlock, ↓reduceIte, Nat.reduceEqDiff]
      refine hK78 _ _ ?_
      refine wp_ret ?_
      injection hM with hM
      subst hM
      try simp only [Exit.then, Exit.inBlock, ↓reduceIte, Nat.reduceEqDiff]
      refine ret_ok hS Tryd.results5 (res_tmp hS rfl res_nil) ?_
      exact rfl
    · replace hM := cf hb814 hM
      refine wg hS rfl rfl rfl hb814 (ky (v := v1) hS (y_move hS rfl) rfl rfl fun a hS => ?_)
      refine wg hS rfl rfl rfl hb814 (ky (v := .int .i64 (rules_.length : Int)) hS (y_len (R := R_RuleD) (xs := rules_) hS sl38 rfl 0 rfl) rfl rfl fun a hS => ?_)
      refine wg hS rfl rfl rfl hb814 (ky (v := .bool (decide ((200 : Int) < (rules_.length : Int)))) hS (y_int hS rfl rfl rfl) rfl rfl fun a hS => ?_)
      refine wl rfl (ky (v := .bool (decide ((200 : Int) < (rules_.length : Int)))) hS (y_pickf hS rfl hb814 rfl) rfl rfl fun a hS => ?_)
      refine wpList_nil ?_
      try simp only [Exit.then, Exit.inBlock, ↓reduceIte, Nat.reduceEqDiff]
      refine hK76 _ _ ?_
      rcases bool2 (decide ((200 : Int) < (rules_.length : Int))) with hb817 | hb817
      · replace hM := ct hb817 hM
        refine c_t hS rfl hb817 ?_
        refine wp_seq_k fun K79 hK79 => ?_
        refine r_list ?_
        obtain ⟨u818, hu818, hM⟩ := bd hM
        refine wl rfl (k_call hS ci14 rfl rfl (law23_awake_c _ _ hS.dlt (hS.get 1 rfl) _ hu818) fun _ w hR a hk hA => ?_)
        have he := Eq.symm hR
        subst he
        have hS := hA [] (fun r hr => by cases hr) List.Pairwise.nil
        refine wl rfl (ky (v := .bool u818) hS (y_assign hS rfl) rfl rfl fun a hS => ?_)
        refine wpList_nil ?_
        try simp only [Exit.then, Exit.inBlock, ↓reduceIte, Nat.reduceEqDiff]
        refine hK79 _ _ ?_
        refine wp_ret ?_
        injection hM with hM
        subst hM
        try simp only [Exit.then, Exit.inBlock, ↓reduceIte, Nat.reduceEqDiff]
        refine ret_ok hS Tryd.results5 (res_tmp hS rfl res_nil) ?_
        exact rfl
      · replace hM := cf hb817 hM
        refine c_f hS rfl hb817 ?_
        refine wp_skip ?_
        try simp only [Exit.then, Exit.inBlock, ↓reduceIte, Nat.reduceEqDiff]
        refine hK75 _ _ ?_
        refine seq_j (J := fun a w => St W0 No T 119 [(2, .int .i64 n_2), (3, v1)] [] [SlF R_RuleD v1 rules_, LvF] a w ∧ law23_KeyKinds_j3 n_2 rules_ = some y) ?_ ?_
        · skip
          refine seq_j (J := fun a w => ∃ (g1408 : (List KeyD)) (g1412 : Int) (v1409 : Value) (cl1410 : (List Value)), St W0 No T 119 [(2, .int .i64 n_2), (3, v1), (55, v1409), (56, .int .i64 g1412), (57, .int .i64 0)] [.own v1409 28 R_KeyD.size cl1410] [SlF R_RuleD v1 rules_, RowsF R_KeyD cl1410 g1408, LvF] a w ∧ law23_KeyKinds_j5 n_2 rules_ g1408 g1412 = some y) ?_ ?_
          · skip
            refine draws [] hS mixed rfl (fun c a d v w h => by cases d <;> exact h) fun w hQ hS => ?_
            refine dy (l := []) 0 (v := .agg #[.int .i64 k_0.Kind, .string k_0.Text]) rfl (by kernel_rfl) (by kernel_rfl) (by kernel_rfl) (by kernel_rfl) hQ hS (y_load hS rfl ty28 0 rfl eo_nil (us := [.int .i64 k_0.Kind, .string k_0.Text]) rfl rfl (fun h => by cases h)) rfl rfl rfl fun a hS => ?_
            refine dy 1 (v := .int .i64 kind_) rfl (by kernel_rfl) (by kernel_rfl) (by kernel_rfl) rfl hQ hS (y_move hS rfl) rfl rfl rfl fun a hS => ?_
            refine dy 4 (v := .pointer (some ⟨b806, 0 + 1, none⟩)) rfl (by kernel_rfl) (by kernel_rfl) (by kernel_rfl) rfl hQ hS (y_fld hS rfl fl28_1) rfl rfl rfl fun a hS => ?_
            refine dy (l := []) 5 (v := .string k_0.Text) rfl (by kernel_rfl) (by kernel_rfl) (by kernel_rfl) (by kernel_rfl) hQ hS (y_load hS rfl ty9 0 rfl eo_nil (us := [.string k_0.Text]) rfl rfl (fun _ => rfl)) rfl rfl rfl fun a hS => ?_
            refine dy 7 (v := .int .i64 kind_) rfl (by kernel_rfl) (by kernel_rfl) (by kernel_rfl) rfl hQ hS (y_move hS rfl) rfl rfl rfl fun a hS => ?_
            refine dy 11 (v := .int .i64 kind_) rfl (by kernel_rfl) (by kernel_rfl) (by kernel_rfl) rfl hQ hS (y_move hS rfl) rfl rfl rfl fun a hS => ?_
            refine dy 14 (v := .string text_) rfl (by kernel_rfl) (by kernel_rfl) (by kernel_rfl) rfl hQ hS (y_move hS rfl) rfl rfl rfl fun a hS => ?_
            refine dy 16 (v := .int .i64 kind_) rfl (by kernel_rfl) (by kernel_rfl) (by kernel_rfl) rfl hQ hS (y_move hS rfl) rfl rfl rfl fun a hS => ?_
            refine dy 20 (v := .int .i64 n_2) rfl (by kernel_rfl) (by kernel_rfl) (by kernel_rfl) rfl hQ hS (y_move hS rfl) rfl rfl rfl fun a hS => ?_
            refine dy 27 (v := .int .i64 0) rfl (by kernel_rfl) (by kernel_rfl) (by kernel_rfl) rfl hQ hS (y_move hS rfl) rfl rfl rfl fun a hS => ?_
            obtain ⟨u1704, hu1704, hM⟩ := bd hM
            refine wpE_two (i := 2) (j := 19) rfl rfl (by kernel_rfl) rfl rfl ?_ ?_
            · skip
              refine id (k_call hS ci18 rfl rfl (mill_Mod_c _ _ hS.dlt kind_ 36 _ hu1704) fun _ w hR a hk hA => ⟨stN (hk), ?_⟩)
              have he := Eq.symm hR
              subst he
              have hS := hA [] (fun r hr => by cases hr) List.Pairwise.nil
              refine dy 3 (v := .int .i64 (IntKind.i64.wrap (u1704 - 1))) rfl (by kernel_rfl) (by kernel_rfl) (by kernel_rfl) rfl hQ hS (y_int hS rfl rfl rfl) rfl rfl rfl fun a hS => ?_
              refine dy 6 (v := .agg #[.int .i64 (IntKind.i64.wrap (u1704 - 1)), .string k_0.Text]) rfl (by kernel_rfl) (by kernel_rfl) (by kernel_rfl) rfl hQ hS (y_build (ps := [(0, .tmp 33), (1, .tmp 35)]) hS pl28 ze28 rfl (us := [[.int .i64 (IntKind.i64.wrap (u1704 - 1))], [.string k_0.Text]]) ⟨rfl, ⟨rfl, trivial⟩⟩ (ws := [.int .i64 (IntKind.i64.wrap (u1704 - 1)), .string k_0.Text]) rfl) rfl rfl rfl fun a hS => ?_
              obtain ⟨u1706, hu1706, hM⟩ := bd hM
              refine wpE_two (i := 8) (j := 19) rfl rfl (by kernel_rfl) rfl rfl ?_ ?_
              · skip
                refine id (k_call hS ci18 rfl rfl (mill_Mod_c _ _ hS.dlt kind_ 36 _ hu1706) fun _ w hR a hk hA => ⟨stN (hk), ?_⟩)
                have he := Eq.symm hR
                subst he
                have hS := hA [] (fun r hr => by cases hr) List.Pairwise.nil
                refine dy 9 (v := .int .i64 (IntKind.i64.wrap (u1706 - 1))) rfl (by kernel_rfl) (by kernel_rfl) (by kernel_rfl) rfl hQ hS (y_int hS rfl rfl rfl) rfl rfl rfl fun a hS => ?_
                refine dy 10 (v := .agg #[.int .i64 (IntKind.i64.wrap (u1706 - 1)), .string (ByteArray.mk #[])]) rfl (by kernel_rfl) (by kernel_rfl) (by kernel_rfl) rfl hQ hS (y_build (ps := [(0, .tmp 39)]) hS pl28 ze28 rfl (us := [[.int .i64 (IntKind.i64.wrap (u1706 - 1))]]) ⟨rfl, trivial⟩ (ws := [.int .i64 (IntKind.i64.wrap (u1706 - 1)), .string (ByteArray.mk #[])]) rfl) rfl rfl rfl fun a hS => ?_
                obtain ⟨u1708, hu1708, hM⟩ := bd hM
                refine wpE_two (i := 12) (j := 19) rfl rfl (by kernel_rfl) rfl rfl ?_ ?_
                · skip
                  refine id (k_call hS ci18 rfl rfl (mill_Mod_c _ _ hS.dlt kind_ 3 _ hu1708) fun _ w hR a hk hA => ⟨stN (hk), ?_⟩)
                  have he := Eq.symm hR
                  subst he
                  have hS := hA [] (fun r hr => by cases hr) List.Pairwise.nil
                  refine dy 13 (v := .int .i64 (IntKind.i64.wrap (30 + u1708))) rfl (by kernel_rfl) (by kernel_rfl) (by kernel_rfl) rfl hQ hS (y_int hS rfl rfl rfl) rfl rfl rfl fun a hS => ?_
                  refine dy 15 (v := .agg #[.int .i64 (IntKind.i64.wrap (30 + u1708)), .string text_]) rfl (by kernel_rfl) (by kernel_rfl) (by kernel_rfl) rfl hQ hS (y_build (ps := [(0, .tmp 43), (1, .tmp 44)]) hS pl28 ze28 rfl (us := [[.int .i64 (IntKind.i64.wrap (30 + u1708))], [.string text_]]) ⟨rfl, ⟨rfl, trivial⟩⟩ (ws := [.int .i64 (IntKind.i64.wrap (30 + u1708)), .string text_]) rfl) rfl rfl rfl fun a hS => ?_
                  obtain ⟨u1710, hu1710, hM⟩ := bd hM
                  refine wpE_two (i := 17) (j := 19) rfl rfl (by kernel_rfl) rfl rfl ?_ ?_
                  · skip
                    refine id (k_call hS ci18 rfl rfl (mill_Mod_c _ _ hS.dlt kind_ 3 _ hu1710) fun _ w hR a hk hA => ⟨stN (hk), ?_⟩)
                    have he := Eq.symm hR
                    subst he
                    have hS := hA [] (fun r hr => by cases hr) List.Pairwise.nil
                    refine dy 18 (v := .int .i64 (IntKind.i64.wrap (30 + u1710))) rfl (by kernel_rfl) (by kernel_rfl) (by kernel_rfl) rfl hQ hS (y_int hS rfl rfl rfl) rfl rfl rfl fun a hS => ?_
                    obtain ⟨u1712, hu1712, hM⟩ := bd hM
                    refine wpE_two (i := 19) (j := 21) rfl rfl (by kernel_rfl) rfl rfl ?_ ?_
                    · skip
                      refine id (k_bslice (ps := [(0, .const (.string ⟨#[48]⟩)), (1, .const (.string ⟨#[57, 57]⟩)), (2, .const (.string ⟨#[49, 48, 48]⟩)), (3, .const (.string ⟨#[48, 55]⟩)), (4, .const (.string ⟨#[45, 49]⟩)), (5, .const (.string ⟨#[43, 49]⟩)), (6, .const (.string ⟨#[49, 32]⟩))]) hS el32 ze9 (zl := [.string (ByteArray.mk #[]), .string (ByteArray.mk #[]), .string (ByteArray.mk #[]), .string (ByteArray.mk #[]), .string (ByteArray.mk #[]), .string (ByteArray.mk #[]), .string (ByteArray.mk #[])]) (by kernel_rfl) rfl (us := [[.string (ByteArray.mk #[48])], [.string (ByteArray.mk #[57, 57])], [.string (ByteArray.mk #[49, 48, 48])], [.string (ByteArray.mk #[48, 55])], [.string (ByteArray.mk #[45, 49])], [.string (ByteArray.mk #[43, 49])], [.string (ByteArray.mk #[49, 32])]]) ⟨rfl, ⟨rfl, ⟨rfl, ⟨rfl, ⟨rfl, ⟨rfl, ⟨rfl, trivial⟩⟩⟩⟩⟩⟩⟩ (ws := [.string (ByteArray.mk #[48]), .string (ByteArray.mk #[57, 57]), .string (ByteArray.mk #[49, 48, 48]), .string (ByteArray.mk #[48, 55]), .string (ByteArray.mk #[45, 49]), .string (ByteArray.mk #[43, 49]), .string (ByteArray.mk #[49, 32])]) rfl rfl rfl rfl fun b1713 a w hk hS => ⟨stN (hk), ?_⟩)
                      refine wpE_one (i := 21) rfl (by kernel_rfl) rfl (k_call hS ci18 rfl rfl (mill_Mod_c _ _ hS.dlt n_2 7 _ hu1712) fun _ w hR a hk hA => ⟨stN (hk), ?_⟩)
                      have he := Eq.symm hR
                      subst he
                      have hS := hA [] (fun r hr => by cases hr) List.Pairwise.nil
                      replace hS := hS.lit (R := Rep.str) (us := [.string (ByteArray.mk #[48]), .string (ByteArray.mk #[57, 57]), .string (ByteArray.mk #[49, 48, 48]), .string (ByteArray.mk #[48, 55]), .string (ByteArray.mk #[45, 49]), .string (ByteArray.mk #[43, 49]), .string (ByteArray.mk #[49, 32])]) (xs := [(ByteArray.mk #[48]), (ByteArray.mk #[57, 57]), (ByteArray.mk #[49, 48, 48]), (ByteArray.mk #[48, 55]), (ByteArray.mk #[45, 49]), (ByteArray.mk #[43, 49]), (ByteArray.mk #[49, 32])]) 0 rfl (by decide) ((RowsOk.one_ (R := Rep.str) (x := (ByteArray.mk #[48])) rfl).append ((RowsOk.one_ (R := Rep.str) (x := (ByteArray.mk #[57, 57])) rfl).append ((RowsOk.one_ (R := Rep.str) (x := (ByteArray.mk #[49, 48, 48])) rfl).append ((RowsOk.one_ (R := Rep.str) (x := (ByteArray.mk #[48, 55])) rfl).append ((RowsOk.one_ (R := Rep.str) (x := (ByteArray.mk #[45, 49])) rfl).append ((RowsOk.one_ (R := Rep.str) (x := (ByteArray.mk #[43, 49])) rfl).append (RowsOk.one_ (R := Rep.str) (x := (ByteArray.mk #[49, 32])) rfl))))))) rfl rfl
                      replace hS := hS.freeze (R := Rep.str) 0 rfl 0 rfl
                      obtain ⟨e1716, he1716, hM⟩ := bd hM
                      obtain ⟨b1717, o1718, cs1720, hr1719, hy1722, hS⟩ := d_index (R := Rep.str) hS sl32 ty9 0 rfl he1716
                      obtain rfl := hr1719
                      refine dy 22 (v := .pointer (some ⟨b1717, o1718, none⟩)) rfl (by kernel_rfl) (by kernel_rfl) (by kernel_rfl) rfl hQ hS (hy1722 rfl rfl) rfl rfl rfl fun a hS => ?_
                      refine dy (l := []) 23 (v := .string e1716) rfl (by kernel_rfl) (by kernel_rfl) (by kernel_rfl) (by kernel_rfl) hQ hS (y_loadc (k := 0) hS ty9 0 rfl rfl es_nil (us := [.string e1716]) rfl rfl (fun _ => rfl)) rfl rfl rfl fun a hS => ?_
                      refine dy 24 (v := .agg #[.int .i64 (IntKind.i64.wrap (30 + u1710)), .string e1716]) rfl (by kernel_rfl) (by kernel_rfl) (by kernel_rfl) rfl hQ hS (y_build (ps := [(0, .tmp 48), (1, .tmp 53)]) hS pl28 ze28 rfl (us := [[.int .i64 (IntKind.i64.wrap (30 + u1710))], [.string e1716]]) ⟨rfl, ⟨rfl, trivial⟩⟩ (ws := [.int .i64 (IntKind.i64.wrap (30 + u1710)), .string e1716]) rfl) rfl rfl rfl fun a hS => ?_
                      refine wpE_one (i := 25) rfl (by kernel_rfl) rfl (k_bslice (ps := [(0, .tmp 30), (1, .tmp 36), (2, .tmp 40), (3, .tmp 45), (4, .tmp 54)]) hS el22 ze28 (zl := [.int .i64 0, .string (ByteArray.mk #[]), .int .i64 0, .string (ByteArray.mk #[]), .int .i64 0, .string (ByteArray.mk #[]), .int .i64 0, .string (ByteArray.mk #[]), .int .i64 0, .string (ByteArray.mk #[])]) (by kernel_rfl) rfl (us := [[.int .i64 k_0.Kind, .string k_0.Text], [.int .i64 (IntKind.i64.wrap (u1704 - 1)), .string k_0.Text], [.int .i64 (IntKind.i64.wrap (u1706 - 1)), .string (ByteArray.mk #[])], [.int .i64 (IntKind.i64.wrap (30 + u1708)), .string text_], [.int .i64 (IntKind.i64.wrap (30 + u1710)), .string e1716]]) ⟨rfl, ⟨rfl, ⟨rfl, ⟨rfl, ⟨rfl, trivial⟩⟩⟩⟩⟩ (ws := [.int .i64 k_0.Kind, .string k_0.Text, .int .i64 (IntKind.i64.wrap (u1704 - 1)), .string k_0.Text, .int .i64 (IntKind.i64.wrap (u1706 - 1)), .string (ByteArray.mk #[]), .int .i64 (IntKind.i64.wrap (30 + u1708)), .string text_, .int .i64 (IntKind.i64.wrap (30 + u1710)), .string e1716]) rfl rfl rfl rfl fun b1723 a w hk hS => ⟨stN (hk), ?_⟩)
                      replace hS := hS.lit (R := R_KeyD) (us := [.int .i64 k_0.Kind, .string k_0.Text, .int .i64 (IntKind.i64.wrap (u1704 - 1)), .string k_0.Text, .int .i64 (IntKind.i64.wrap (u1706 - 1)), .string (ByteArray.mk #[]), .int .i64 (IntKind.i64.wrap (30 + u1708)), .string text_, .int .i64 (IntKind.i64.wrap (30 + u1710)), .string e1716]) (xs := [k_0, (KeyD.mk (IntKind.i64.wrap (u1704 - 1)) k_0.Text), (KeyD.mk (IntKind.i64.wrap (u1706 - 1)) (ByteArray.mk #[])), (KeyD.mk (IntKind.i64.wrap (30 + u1708)) text_), (KeyD.mk (IntKind.i64.wrap (30 + u1710)) e1716)]) 0 rfl (by decide) ((RowsOk.one_ (R := R_KeyD) (x := k_0) rfl).append ((RowsOk.one_ (R := R_KeyD) (x := (KeyD.mk (IntKind.i64.wrap (u1704 - 1)) k_0.Text)) rfl).append ((RowsOk.one_ (R := R_KeyD) (x := (KeyD.mk (IntKind.i64.wrap (u1706 - 1)) (ByteArray.mk #[]))) rfl).append ((RowsOk.one_ (R := R_KeyD) (x := (KeyD.mk (IntKind.i64.wrap (30 + u1708)) text_)) rfl).append (RowsOk.one_ (R := R_KeyD) (x := (KeyD.mk (IntKind.i64.wrap (30 + u1710)) e1716)) rfl))))) rfl rfl
                      refine dy 26 (v := .int .i64 (([k_0, (KeyD.mk (IntKind.i64.wrap (u1704 - 1)) k_0.Text), (KeyD.mk (IntKind.i64.wrap (u1706 - 1)) (ByteArray.mk #[])), (KeyD.mk (IntKind.i64.wrap (30 + u1708)) text_), (KeyD.mk (IntKind.i64.wrap (30 + u1710)) e1716)]).length : Int)) rfl (by kernel_rfl) (by kernel_rfl) (by kernel_rfl) rfl hQ hS (y_leno (R := R_KeyD) (xs := [k_0, (KeyD.mk (IntKind.i64.wrap (u1704 - 1)) k_0.Text), (KeyD.mk (IntKind.i64.wrap (u1706 - 1)) (ByteArray.mk #[])), (KeyD.mk (IntKind.i64.wrap (30 + u1708)) text_), (KeyD.mk (IntKind.i64.wrap (30 + u1710)) e1716)]) hS sl22 rfl 0 rfl 0 rfl) rfl rfl rfl fun a hS => ?_
                      refine wpE_done (by kernel_rfl) ?_ _
                      try simp only [Exit.then, Exit.inBlock, ↓reduceIte, Nat.reduceEqDiff]
                      exact ⟨([k_0, (KeyD.mk (IntKind.i64.wrap (u1704 - 1)) k_0.Text), (KeyD.mk (IntKind.i64.wrap (u1706 - 1)) (ByteArray.mk #[])), (KeyD.mk (IntKind.i64.wrap (30 + u1708)) text_), (KeyD.mk (IntKind.i64.wrap (30 + u1710)) e1716)]), (([k_0, (KeyD.mk (IntKind.i64.wrap (u1704 - 1)) k_0.Text), (KeyD.mk (IntKind.i64.wrap (u1706 - 1)) (ByteArray.mk #[])), (KeyD.mk (IntKind.i64.wrap (30 + u1708)) text_), (KeyD.mk (IntKind.i64.wrap (30 + u1710)) e1716)]).length : Int), (.slice (some ⟨b1723, 0, none⟩) 5 5), ([.int .i64 k_0.Kind, .string k_0.Text, .int .i64 (IntKind.i64.wrap (u1704 - 1)), .string k_0.Text, .int .i64 (IntKind.i64.wrap (u1706 - 1)), .string (ByteArray.mk #[]), .int .i64 (IntKind.i64.wrap (30 + u1708)), .string text_, .int .i64 (IntKind.i64.wrap (30 + u1710)), .string e1716]), (hS.meet [0] (by decide) ⟨rfl, rfl, rfl, rfl, rfl, trivial⟩ ⟨rfl, trivial⟩ ⟨⟨4, rfl⟩, ⟨0, rfl⟩, ⟨5, rfl⟩, trivial⟩), hM⟩
                    · skip
                      refine id (k_call hS ci18 rfl rfl (mill_Mod_c _ _ hS.dlt n_2 7 _ hu1712) fun _ w hR a hk hA => ⟨stN (hk), ?_⟩)
                      have he := Eq.symm hR
                      subst he
                      have hS := hA [] (fun r hr => by cases hr) List.Pairwise.nil
                      refine wpE_one (i := 19) rfl (by kernel_rfl) rfl (k_bslice (ps := [(0, .const (.string ⟨#[48]⟩)), (1, .const (.string ⟨#[57, 57]⟩)), (2, .const (.string ⟨#[49, 48, 48]⟩)), (3, .const (.string ⟨#[48, 55]⟩)), (4, .const (.string ⟨#[45, 49]⟩)), (5, .const (.string ⟨#[43, 49]⟩)), (6, .const (.string ⟨#[49, 32]⟩))]) hS el32 ze9 (zl := [.string (ByteArray.mk #[]), .string (ByteArray.mk #[]), .string (ByteArray.mk #[]), .string (ByteArray.mk #[]), .string (ByteArray.mk #[]), .string (ByteArray.mk #[]), .string (ByteArray.mk #[])]) (by kernel_rfl) rfl (us := [[.string (ByteArray.mk #[48])], [.string (ByteArray.mk #[57, 57])], [.string (ByteArray.mk #[49, 48, 48])], [.string (ByteArray.mk #[48, 55])], [.string (ByteArray.mk #[45, 49])], [.string (ByteArray.mk #[43, 49])], [.string (ByteArray.mk #[49, 32])]]) ⟨rfl, ⟨rfl, ⟨rfl, ⟨rfl, ⟨rfl, ⟨rfl, ⟨rfl, trivial⟩⟩⟩⟩⟩⟩⟩ (ws := [.string (ByteArray.mk #[48]), .string (ByteArray.mk #[57, 57]), .string (ByteArray.mk #[49, 48, 48]), .string (ByteArray.mk #[48, 55]), .string (ByteArray.mk #[45, 49]), .string (ByteArray.mk #[43, 49]), .string (ByteArray.mk #[49, 32])]) rfl rfl rfl rfl fun b1714 a w hk hS => ⟨stN (hk), ?_⟩)
                      replace hS := hS.lit (R := Rep.str) (us := [.string (ByteArray.mk #[48]), .string (ByteArray.mk #[57, 57]), .string (ByteArray.mk #[49, 48, 48]), .string (ByteArray.mk #[48, 55]), .string (ByteArray.mk #[45, 49]), .string (ByteArray.mk #[43, 49]), .string (ByteArray.mk #[49, 32])]) (xs := [(ByteArray.mk #[48]), (ByteArray.mk #[57, 57]), (ByteArray.mk #[49, 48, 48]), (ByteArray.mk #[48, 55]), (ByteArray.mk #[45, 49]), (ByteArray.mk #[43, 49]), (ByteArray.mk #[49, 32])]) 0 rfl (by decide) ((RowsOk.one_ (R := Rep.str) (x := (ByteArray.mk #[48])) rfl).append ((RowsOk.one_ (R := Rep.str) (x := (ByteArray.mk #[57, 57])) rfl).append ((RowsOk.one_ (R := Rep.str) (x := (ByteArray.mk #[49, 48, 48])) rfl).append ((RowsOk.one_ (R := Rep.str) (x := (ByteArray.mk #[48, 55])) rfl).append ((RowsOk.one_ (R := Rep.str) (x := (ByteArray.mk #[45, 49])) rfl).append ((RowsOk.one_ (R := Rep.str) (x := (ByteArray.mk #[43, 49])) rfl).append (RowsOk.one_ (R := Rep.str) (x := (ByteArray.mk #[49, 32])) rfl))))))) rfl rfl
                      replace hS := hS.freeze (R := Rep.str) 0 rfl 0 rfl
                      obtain ⟨e1716, he1716, hM⟩ := bd hM
                      obtain ⟨b1717, o1718, cs1720, hr1719, hy1722, hS⟩ := d_index (R := Rep.str) hS sl32 ty9 0 rfl he1716
                      obtain rfl := hr1719
                      refine dy 22 (v := .pointer (some ⟨b1717, o1718, none⟩)) rfl (by kernel_rfl) (by kernel_rfl) (by kernel_rfl) rfl hQ hS (hy1722 rfl rfl) rfl rfl rfl fun a hS => ?_
                      refine dy (l := []) 23 (v := .string e1716) rfl (by kernel_rfl) (by kernel_rfl) (by kernel_rfl) (by kernel_rfl) hQ hS (y_loadc (k := 0) hS ty9 0 rfl rfl es_nil (us := [.string e1716]) rfl rfl (fun _ => rfl)) rfl rfl rfl fun a hS => ?_
                      refine dy 24 (v := .agg #[.int .i64 (IntKind.i64.wrap (30 + u1710)), .string e1716]) rfl (by kernel_rfl) (by kernel_rfl) (by kernel_rfl) rfl hQ hS (y_build (ps := [(0, .tmp 48), (1, .tmp 53)]) hS pl28 ze28 rfl (us := [[.int .i64 (IntKind.i64.wrap (30 + u1710))], [.string e1716]]) ⟨rfl, ⟨rfl, trivial⟩⟩ (ws := [.int .i64 (IntKind.i64.wrap (30 + u1710)), .string e1716]) rfl) rfl rfl rfl fun a hS => ?_
                      refine wpE_one (i := 25) rfl (by kernel_rfl) rfl (k_bslice (ps := [(0, .tmp 30), (1, .tmp 36), (2, .tmp 40), (3, .tmp 45), (4, .tmp 54)]) hS el22 ze28 (zl := [.int .i64 0, .string (ByteArray.mk #[]), .int .i64 0, .string (ByteArray.mk #[]), .int .i64 0, .string (ByteArray.mk #[]), .int .i64 0, .string (ByteArray.mk #[]), .int .i64 0, .string (ByteArray.mk #[])]) (by kernel_rfl) rfl (us := [[.int .i64 k_0.Kind, .string k_0.Text], [.int .i64 (IntKind.i64.wrap (u1704 - 1)), .string k_0.Text], [.int .i64 (IntKind.i64.wrap (u1706 - 1)), .string (ByteArray.mk #[])], [.int .i64 (IntKind.i64.wrap (30 + u1708)), .string text_], [.int .i64 (IntKind.i64.wrap (30 + u1710)), .string e1716]]) ⟨rfl, ⟨rfl, ⟨rfl, ⟨rfl, ⟨rfl, trivial⟩⟩⟩⟩⟩ (ws := [.int .i64 k_0.Kind, .string k_0.Text, .int .i64 (IntKind.i64.wrap (u1704 - 1)), .string k_0.Text, .int .i64 (IntKind.i64.wrap (u1706 - 1)), .string (ByteArray.mk #[]), .int .i64 (IntKind.i64.wrap (30 + u1708)), .string text_, .int .i64 (IntKind.i64.wrap (30 + u1710)), .string e1716]) rfl rfl rfl rfl fun b1723 a w hk hS => ⟨stN (hk), ?_⟩)
                      replace hS := hS.lit (R := R_KeyD) (us := [.int .i64 k_0.Kind, .string k_0.Text, .int .i64 (IntKind.i64.wrap (u1704 - 1)), .string k_0.Text, .int .i64 (IntKind.i64.wrap (u1706 - 1)), .string (ByteArray.mk #[]), .int .i64 (IntKind.i64.wrap (30 + u1708)), .string text_, .int .i64 (IntKind.i64.wrap (30 + u1710)), .string e1716]) (xs := [k_0, (KeyD.mk (IntKind.i64.wrap (u1704 - 1)) k_0.Text), (KeyD.mk (IntKind.i64.wrap (u1706 - 1)) (ByteArray.mk #[])), (KeyD.mk (IntKind.i64.wrap (30 + u1708)) text_), (KeyD.mk (IntKind.i64.wrap (30 + u1710)) e1716)]) 0 rfl (by decide) ((RowsOk.one_ (R := R_KeyD) (x := k_0) rfl).append ((RowsOk.one_ (R := R_KeyD) (x := (KeyD.mk (IntKind.i64.wrap (u1704 - 1)) k_0.Text)) rfl).append ((RowsOk.one_ (R := R_KeyD) (x := (KeyD.mk (IntKind.i64.wrap (u1706 - 1)) (ByteArray.mk #[]))) rfl).append ((RowsOk.one_ (R := R_KeyD) (x := (KeyD.mk (IntKind.i64.wrap (30 + u1708)) text_)) rfl).append (RowsOk.one_ (R := R_KeyD) (x := (KeyD.mk (IntKind.i64.wrap (30 + u1710)) e1716)) rfl))))) rfl rfl
                      refine dy 26 (v := .int .i64 (([k_0, (KeyD.mk (IntKind.i64.wrap (u1704 - 1)) k_0.Text), (KeyD.mk (IntKind.i64.wrap (u1706 - 1)) (ByteArray.mk #[])), (KeyD.mk (IntKind.i64.wrap (30 + u1708)) text_), (KeyD.mk (IntKind.i64.wrap (30 + u1710)) e1716)]).length : Int)) rfl (by kernel_rfl) (by kernel_rfl) (by kernel_rfl) rfl hQ hS (y_leno (R := R_KeyD) (xs := [k_0, (KeyD.mk (IntKind.i64.wrap (u1704 - 1)) k_0.Text), (KeyD.mk (IntKind.i64.wrap (u1706 - 1)) (ByteArray.mk #[])), (KeyD.mk (IntKind.i64.wrap (30 + u1708)) text_), (KeyD.mk (IntKind.i64.wrap (30 + u1710)) e1716)]) hS sl22 rfl 0 rfl 0 rfl) rfl rfl rfl fun a hS => ?_
                      refine wpE_done (by kernel_rfl) ?_ _
                      try simp only [Exit.then, Exit.inBlock, ↓reduceIte, Nat.reduceEqDiff]
                      exact ⟨([k_0, (KeyD.mk (IntKind.i64.wrap (u1704 - 1)) k_0.Text), (KeyD.mk (IntKind.i64.wrap (u1706 - 1)) (ByteArray.mk #[])), (KeyD.mk (IntKind.i64.wrap (30 + u1708)) text_), (KeyD.mk (IntKind.i64.wrap (30 + u1710)) e1716)]), (([k_0, (KeyD.mk (IntKind.i64.wrap (u1704 - 1)) k_0.Text), (KeyD.mk (IntKind.i64.wrap (u1706 - 1)) (ByteArray.mk #[])), (KeyD.mk (IntKind.i64.wrap (30 + u1708)) text_), (KeyD.mk (IntKind.i64.wrap (30 + u1710)) e1716)]).length : Int), (.slice (some ⟨b1723, 0, none⟩) 5 5), ([.int .i64 k_0.Kind, .string k_0.Text, .int .i64 (IntKind.i64.wrap (u1704 - 1)), .string k_0.Text, .int .i64 (IntKind.i64.wrap (u1706 - 1)), .string (ByteArray.mk #[]), .int .i64 (IntKind.i64.wrap (30 + u1708)), .string text_, .int .i64 (IntKind.i64.wrap (30 + u1710)), .string e1716]), (hS.meet [0] (by decide) ⟨rfl, rfl, rfl, rfl, rfl, trivial⟩ ⟨rfl, trivial⟩ ⟨⟨4, rfl⟩, ⟨0, rfl⟩, ⟨5, rfl⟩, trivial⟩), hM⟩
                  · skip
                    refine id (k_bslice (ps := [(0, .const (.string ⟨#[48]⟩)), (1, .const (.string ⟨#[57, 57]⟩)), (2, .const (.string ⟨#[49, 48, 48]⟩)), (3, .const (.string ⟨#[48, 55]⟩)), (4, .const (.string ⟨#[45, 49]⟩)), (5, .const (.string ⟨#[43, 49]⟩)), (6, .const (.string ⟨#[49, 32]⟩))]) hS el32 ze9 (zl := [.string (ByteArray.mk #[]), .string (ByteArray.mk #[]), .string (ByteArray.mk #[]), .string (ByteArray.mk #[]), .string (ByteArray.mk #[]), .string (ByteArray.mk #[]), .string (ByteArray.mk #[])]) (by kernel_rfl) rfl (us := [[.string (ByteArray.mk #[48])], [.string (ByteArray.mk #[57, 57])], [.string (ByteArray.mk #[49, 48, 48])], [.string (ByteArray.mk #[48, 55])], [.string (ByteArray.mk #[45, 49])], [.string (ByteArray.mk #[43, 49])], [.string (ByteArray.mk #[49, 32])]]) ⟨rfl, ⟨rfl, ⟨rfl, ⟨rfl, ⟨rfl, ⟨rfl, ⟨rfl, trivial⟩⟩⟩⟩⟩⟩⟩ (ws := [.string (ByteArray.mk #[48]), .string (ByteArray.mk #[57, 57]), .string (ByteArray.mk #[49, 48, 48]), .string (ByteArray.mk #[48, 55]), .string (ByteArray.mk #[45, 49]), .string (ByteArray.mk #[43, 49]), .string (ByteArray.mk #[49, 32])]) rfl rfl rfl rfl fun b1711 a w hk hS => ⟨stN (hk), ?_⟩)
                    refine wpE_one (i := 17) rfl (by kernel_rfl) rfl (k_call hS ci18 rfl rfl (mill_Mod_c _ _ hS.dlt kind_ 3 _ hu1710) fun _ w hR a hk hA => ⟨stN (hk), ?_⟩)
                    have he := Eq.symm hR
                    subst he
                    have hS := hA [] (fun r hr => by cases hr) List.Pairwise.nil
                    refine dy 18 (v := .int .i64 (IntKind.i64.wrap (30 + u1710))) rfl (by kernel_rfl) (by kernel_rfl) (by kernel_rfl) rfl hQ hS (y_int hS rfl rfl rfl) rfl rfl rfl fun a hS => ?_
                    obtain ⟨u1714, hu1714, hM⟩ := bd hM
                    refine wpE_one (i := 21) rfl (by kernel_rfl) rfl (k_call hS ci18 rfl rfl (mill_Mod_c _ _ hS.dlt n_2 7 _ hu1714) fun _ w hR a hk hA => ⟨stN (hk), ?_⟩)
                    have he := Eq.symm hR
                    subst he
                    have hS := hA [] (fun r hr => by cases hr) List.Pairwise.nil
                    replace hS := hS.lit (R := Rep.str) (us := [.string (ByteArray.mk #[48]), .string (ByteArray.mk #[57, 57]), .string (ByteArray.mk #[49, 48, 48]), .string (ByteArray.mk #[48, 55]), .string (ByteArray.mk #[45, 49]), .string (ByteArray.mk #[43, 49]), .string (ByteArray.mk #[49, 32])]) (xs := [(ByteArray.mk #[48]), (ByteArray.mk #[57, 57]), (ByteArray.mk #[49, 48, 48]), (ByteArray.mk #[48, 55]), (ByteArray.mk #[45, 49]), (ByteArray.mk #[43, 49]), (ByteArray.mk #[49, 32])]) 0 rfl (by decide) ((RowsOk.one_ (R := Rep.str) (x := (ByteArray.mk #[48])) rfl).append ((RowsOk.one_ (R := Rep.str) (x := (ByteArray.mk #[57, 57])) rfl).append ((RowsOk.one_ (R := Rep.str) (x := (ByteArray.mk #[49, 48, 48])) rfl).append ((RowsOk.one_ (R := Rep.str) (x := (ByteArray.mk #[48, 55])) rfl).append ((RowsOk.one_ (R := Rep.str) (x := (ByteArray.mk #[45, 49])) rfl).append ((RowsOk.one_ (R := Rep.str) (x := (ByteArray.mk #[43, 49])) rfl).append (RowsOk.one_ (R := Rep.str) (x := (ByteArray.mk #[49, 32])) rfl))))))) rfl rfl
                    replace hS := hS.freeze (R := Rep.str) 0 rfl 0 rfl
                    obtain ⟨e1716, he1716, hM⟩ := bd hM
                    obtain ⟨b1717, o1718, cs1720, hr1719, hy1722, hS⟩ := d_index (R := Rep.str) hS sl32 ty9 0 rfl he1716
                    obtain rfl := hr1719
                    refine dy 22 (v := .pointer (some ⟨b1717, o1718, none⟩)) rfl (by kernel_rfl) (by kernel_rfl) (by kernel_rfl) rfl hQ hS (hy1722 rfl rfl) rfl rfl rfl fun a hS => ?_
                    refine dy (l := []) 23 (v := .string e1716) rfl (by kernel_rfl) (by kernel_rfl) (by kernel_rfl) (by kernel_rfl) hQ hS (y_loadc (k := 0) hS ty9 0 rfl rfl es_nil (us := [.string e1716]) rfl rfl (fun _ => rfl)) rfl rfl rfl fun a hS => ?_
                    refine dy 24 (v := .agg #[.int .i64 (IntKind.i64.wrap (30 + u1710)), .string e1716]) rfl (by kernel_rfl) (by kernel_rfl) (by kernel_rfl) rfl hQ hS (y_build (ps := [(0, .tmp 48), (1, .tmp 53)]) hS pl28 ze28 rfl (us := [[.int .i64 (IntKind.i64.wrap (30 + u1710))], [.string e1716]]) ⟨rfl, ⟨rfl, trivial⟩⟩ (ws := [.int .i64 (IntKind.i64.wrap (30 + u1710)), .string e1716]) rfl) rfl rfl rfl fun a hS => ?_
                    refine wpE_one (i := 25) rfl (by kernel_rfl) rfl (k_bslice (ps := [(0, .tmp 30), (1, .tmp 36), (2, .tmp 40), (3, .tmp 45), (4, .tmp 54)]) hS el22 ze28 (zl := [.int .i64 0, .string (ByteArray.mk #[]), .int .i64 0, .string (ByteArray.mk #[]), .int .i64 0, .string (ByteArray.mk #[]), .int .i64 0, .string (ByteArray.mk #[]), .int .i64 0, .string (ByteArray.mk #[])]) (by kernel_rfl) rfl (us := [[.int .i64 k_0.Kind, .string k_0.Text], [.int .i64 (IntKind.i64.wrap (u1704 - 1)), .string k_0.Text], [.int .i64 (IntKind.i64.wrap (u1706 - 1)), .string (ByteArray.mk #[])], [.int .i64 (IntKind.i64.wrap (30 + u1708)), .string text_], [.int .i64 (IntKind.i64.wrap (30 + u1710)), .string e1716]]) ⟨rfl, ⟨rfl, ⟨rfl, ⟨rfl, ⟨rfl, trivial⟩⟩⟩⟩⟩ (ws := [.int .i64 k_0.Kind, .string k_0.Text, .int .i64 (IntKind.i64.wrap (u1704 - 1)), .string k_0.Text, .int .i64 (IntKind.i64.wrap (u1706 - 1)), .string (ByteArray.mk #[]), .int .i64 (IntKind.i64.wrap (30 + u1708)), .string text_, .int .i64 (IntKind.i64.wrap (30 + u1710)), .string e1716]) rfl rfl rfl rfl fun b1723 a w hk hS => ⟨stN (hk), ?_⟩)
                    replace hS := hS.lit (R := R_KeyD) (us := [.int .i64 k_0.Kind, .string k_0.Text, .int .i64 (IntKind.i64.wrap (u1704 - 1)), .string k_0.Text, .int .i64 (IntKind.i64.wrap (u1706 - 1)), .string (ByteArray.mk #[]), .int .i64 (IntKind.i64.wrap (30 + u1708)), .string text_, .int .i64 (IntKind.i64.wrap (30 + u1710)), .string e1716]) (xs := [k_0, (KeyD.mk (IntKind.i64.wrap (u1704 - 1)) k_0.Text), (KeyD.mk (IntKind.i64.wrap (u1706 - 1)) (ByteArray.mk #[])), (KeyD.mk (IntKind.i64.wrap (30 + u1708)) text_), (KeyD.mk (IntKind.i64.wrap (30 + u1710)) e1716)]) 0 rfl (by decide) ((RowsOk.one_ (R := R_KeyD) (x := k_0) rfl).append ((RowsOk.one_ (R := R_KeyD) (x := (KeyD.mk (IntKind.i64.wrap (u1704 - 1)) k_0.Text)) rfl).append ((RowsOk.one_ (R := R_KeyD) (x := (KeyD.mk (IntKind.i64.wrap (u1706 - 1)) (ByteArray.mk #[]))) rfl).append ((RowsOk.one_ (R := R_KeyD) (x := (KeyD.mk (IntKind.i64.wrap (30 + u1708)) text_)) rfl).append (RowsOk.one_ (R := R_KeyD) (x := (KeyD.mk (IntKind.i64.wrap (30 + u1710)) e1716)) rfl))))) rfl rfl
                    refine dy 26 (v := .int .i64 (([k_0, (KeyD.mk (IntKind.i64.wrap (u1704 - 1)) k_0.Text), (KeyD.mk (IntKind.i64.wrap (u1706 - 1)) (ByteArray.mk #[])), (KeyD.mk (IntKind.i64.wrap (30 + u1708)) text_), (KeyD.mk (IntKind.i64.wrap (30 + u1710)) e1716)]).length : Int)) rfl (by kernel_rfl) (by kernel_rfl) (by kernel_rfl) rfl hQ hS (y_leno (R := R_KeyD) (xs := [k_0, (KeyD.mk (IntKind.i64.wrap (u1704 - 1)) k_0.Text), (KeyD.mk (IntKind.i64.wrap (u1706 - 1)) (ByteArray.mk #[])), (KeyD.mk (IntKind.i64.wrap (30 + u1708)) text_), (KeyD.mk (IntKind.i64.wrap (30 + u1710)) e1716)]) hS sl22 rfl 0 rfl 0 rfl) rfl rfl rfl fun a hS => ?_
                    refine wpE_done (by kernel_rfl) ?_ _
                    try simp only [Exit.then, Exit.inBlock, ↓reduceIte, Nat.reduceEqDiff]
                    exact ⟨([k_0, (KeyD.mk (IntKind.i64.wrap (u1704 - 1)) k_0.Text), (KeyD.mk (IntKind.i64.wrap (u1706 - 1)) (ByteArray.mk #[])), (KeyD.mk (IntKind.i64.wrap (30 + u1708)) text_), (KeyD.mk (IntKind.i64.wrap (30 + u1710)) e1716)]), (([k_0, (KeyD.mk (IntKind.i64.wrap (u1704 - 1)) k_0.Text), (KeyD.mk (IntKind.i64.wrap (u1706 - 1)) (ByteArray.mk #[])), (KeyD.mk (IntKind.i64.wrap (30 + u1708)) text_), (KeyD.mk (IntKind.i64.wrap (30 + u1710)) e1716)]).length : Int), (.slice (some ⟨b1723, 0, none⟩) 5 5), ([.int .i64 k_0.Kind, .string k_0.Text, .int .i64 (IntKind.i64.wrap (u1704 - 1)), .string k_0.Text, .int .i64 (IntKind.i64.wrap (u1706 - 1)), .string (ByteArray.mk #[]), .int .i64 (IntKind.i64.wrap (30 + u1708)), .string text_, .int .i64 (IntKind.i64.wrap (30 + u1710)), .string e1716]), (hS.meet [0] (by decide) ⟨rfl, rfl, rfl, rfl, rfl, trivial⟩ ⟨rfl, trivial⟩ ⟨⟨4, rfl⟩, ⟨0, rfl⟩, ⟨5, rfl⟩, trivial⟩), hM⟩
                · skip
                  refine id (k_bslice (ps := [(0, .const (.string ⟨#[48]⟩)), (1, .const (.string ⟨#[57, 57]⟩)), (2, .const (.string ⟨#[49, 48, 48]⟩)), (3, .const (.string ⟨#[48, 55]⟩)), (4, .const (.string ⟨#[45, 49]⟩)), (5, .const (.string ⟨#[43, 49]⟩)), (6, .const (.string ⟨#[49, 32]⟩))]) hS el32 ze9 (zl := [.string (ByteArray.mk #[]), .string (ByteArray.mk #[]), .string (ByteArray.mk #[]), .string (ByteArray.mk #[]), .string (ByteArray.mk #[]), .string (ByteArray.mk #[]), .string (ByteArray.mk #[])]) (by kernel_rfl) rfl (us := [[.string (ByteArray.mk #[48])], [.string (ByteArray.mk #[57, 57])], [.string (ByteArray.mk #[49, 48, 48])], [.string (ByteArray.mk #[48, 55])], [.string (ByteArray.mk #[45, 49])], [.string (ByteArray.mk #[43, 49])], [.string (ByteArray.mk #[49, 32])]]) ⟨rfl, ⟨rfl, ⟨rfl, ⟨rfl, ⟨rfl, ⟨rfl, ⟨rfl, trivial⟩⟩⟩⟩⟩⟩⟩ (ws := [.string (ByteArray.mk #[48]), .string (ByteArray.mk #[57, 57]), .string (ByteArray.mk #[49, 48, 48]), .string (ByteArray.mk #[48, 55]), .string (ByteArray.mk #[45, 49]), .string (ByteArray.mk #[43, 49]), .string (ByteArray.mk #[49, 32])]) rfl rfl rfl rfl fun b1709 a w hk hS => ⟨stN (hk), ?_⟩)
                  refine wpE_one (i := 12) rfl (by kernel_rfl) rfl (k_call hS ci18 rfl rfl (mill_Mod_c _ _ hS.dlt kind_ 3 _ hu1708) fun _ w hR a hk hA => ⟨stN (hk), ?_⟩)
                  have he := Eq.symm hR
                  subst he
                  have hS := hA [] (fun r hr => by cases hr) List.Pairwise.nil
                  refine dy 13 (v := .int .i64 (IntKind.i64.wrap (30 + u1708))) rfl (by kernel_rfl) (by kernel_rfl) (by kernel_rfl) rfl hQ hS (y_int hS rfl rfl rfl) rfl rfl rfl fun a hS => ?_
                  refine dy 15 (v := .agg #[.int .i64 (IntKind.i64.wrap (30 + u1708)), .string text_]) rfl (by kernel_rfl) (by kernel_rfl) (by kernel_rfl) rfl hQ hS (y_build (ps := [(0, .tmp 43), (1, .tmp 44)]) hS pl28 ze28 rfl (us := [[.int .i64 (IntKind.i64.wrap (30 + u1708))], [.string text_]]) ⟨rfl, ⟨rfl, trivial⟩⟩ (ws := [.int .i64 (IntKind.i64.wrap (30 + u1708)), .string text_]) rfl) rfl rfl rfl fun a hS => ?_
                  obtain ⟨u1712, hu1712, hM⟩ := bd hM
                  refine wpE_one (i := 17) rfl (by kernel_rfl) rfl (k_call hS ci18 rfl rfl (mill_Mod_c _ _ hS.dlt kind_ 3 _ hu1712) fun _ w hR a hk hA => ⟨stN (hk), ?_⟩)
                  have he := Eq.symm hR
                  subst he
                  have hS := hA [] (fun r hr => by cases hr) List.Pairwise.nil
                  refine dy 18 (v := .int .i64 (IntKind.i64.wrap (30 + u1712))) rfl (by kernel_rfl) (by kernel_rfl) (by kernel_rfl) rfl hQ hS (y_int hS rfl rfl rfl) rfl rfl rfl fun a hS => ?_
                  obtain ⟨u1714, hu1714, hM⟩ := bd hM
                  refine wpE_one (i := 21) rfl (by kernel_rfl) rfl (k_call hS ci18 rfl rfl (mill_Mod_c _ _ hS.dlt n_2 7 _ hu1714) fun _ w hR a hk hA => ⟨stN (hk), ?_⟩)
                  have he := Eq.symm hR
                  subst he
                  have hS := hA [] (fun r hr => by cases hr) List.Pairwise.nil
                  replace hS := hS.lit (R := Rep.str) (us := [.string (ByteArray.mk #[48]), .string (ByteArray.mk #[57, 57]), .string (ByteArray.mk #[49, 48, 48]), .string (ByteArray.mk #[48, 55]), .string (ByteArray.mk #[45, 49]), .string (ByteArray.mk #[43, 49]), .string (ByteArray.mk #[49, 32])]) (xs := [(ByteArray.mk #[48]), (ByteArray.mk #[57, 57]), (ByteArray.mk #[49, 48, 48]), (ByteArray.mk #[48, 55]), (ByteArray.mk #[45, 49]), (ByteArray.mk #[43, 49]), (ByteArray.mk #[49, 32])]) 0 rfl (by decide) ((RowsOk.one_ (R := Rep.str) (x := (ByteArray.mk #[48])) rfl).append ((RowsOk.one_ (R := Rep.str) (x := (ByteArray.mk #[57, 57])) rfl).append ((RowsOk.one_ (R := Rep.str) (x := (ByteArray.mk #[49, 48, 48])) rfl).append ((RowsOk.one_ (R := Rep.str) (x := (ByteArray.mk #[48, 55])) rfl).append ((RowsOk.one_ (R := Rep.str) (x := (ByteArray.mk #[45, 49])) rfl).append ((RowsOk.one_ (R := Rep.str) (x := (ByteArray.mk #[43, 49])) rfl).append (RowsOk.one_ (R := Rep.str) (x := (ByteArray.mk #[49, 32])) rfl))))))) rfl rfl
                  replace hS := hS.freeze (R := Rep.str) 0 rfl 0 rfl
                  obtain ⟨e1716, he1716, hM⟩ := bd hM
                  obtain ⟨b1717, o1718, cs1720, hr1719, hy1722, hS⟩ := d_index (R := Rep.str) hS sl32 ty9 0 rfl he1716
                  obtain rfl := hr1719
                  refine dy 22 (v := .pointer (some ⟨b1717, o1718, none⟩)) rfl (by kernel_rfl) (by kernel_rfl) (by kernel_rfl) rfl hQ hS (hy1722 rfl rfl) rfl rfl rfl fun a hS => ?_
                  refine dy (l := []) 23 (v := .string e1716) rfl (by kernel_rfl) (by kernel_rfl) (by kernel_rfl) (by kernel_rfl) hQ hS (y_loadc (k := 0) hS ty9 0 rfl rfl es_nil (us := [.string e1716]) rfl rfl (fun _ => rfl)) rfl rfl rfl fun a hS => ?_
                  refine dy 24 (v := .agg #[.int .i64 (IntKind.i64.wrap (30 + u1712)), .string e1716]) rfl (by kernel_rfl) (by kernel_rfl) (by kernel_rfl) rfl hQ hS (y_build (ps := [(0, .tmp 48), (1, .tmp 53)]) hS pl28 ze28 rfl (us := [[.int .i64 (IntKind.i64.wrap (30 + u1712))], [.string e1716]]) ⟨rfl, ⟨rfl, trivial⟩⟩ (ws := [.int .i64 (IntKind.i64.wrap (30 + u1712)), .string e1716]) rfl) rfl rfl rfl fun a hS => ?_
                  refine wpE_one (i := 25) rfl (by kernel_rfl) rfl (k_bslice (ps := [(0, .tmp 30), (1, .tmp 36), (2, .tmp 40), (3, .tmp 45), (4, .tmp 54)]) hS el22 ze28 (zl := [.int .i64 0, .string (ByteArray.mk #[]), .int .i64 0, .string (ByteArray.mk #[]), .int .i64 0, .string (ByteArray.mk #[]), .int .i64 0, .string (ByteArray.mk #[]), .int .i64 0, .string (ByteArray.mk #[])]) (by kernel_rfl) rfl (us := [[.int .i64 k_0.Kind, .string k_0.Text], [.int .i64 (IntKind.i64.wrap (u1704 - 1)), .string k_0.Text], [.int .i64 (IntKind.i64.wrap (u1706 - 1)), .string (ByteArray.mk #[])], [.int .i64 (IntKind.i64.wrap (30 + u1708)), .string text_], [.int .i64 (IntKind.i64.wrap (30 + u1712)), .string e1716]]) ⟨rfl, ⟨rfl, ⟨rfl, ⟨rfl, ⟨rfl, trivial⟩⟩⟩⟩⟩ (ws := [.int .i64 k_0.Kind, .string k_0.Text, .int .i64 (IntKind.i64.wrap (u1704 - 1)), .string k_0.Text, .int .i64 (IntKind.i64.wrap (u1706 - 1)), .string (ByteArray.mk #[]), .int .i64 (IntKind.i64.wrap (30 + u1708)), .string text_, .int .i64 (IntKind.i64.wrap (30 + u1712)), .string e1716]) rfl rfl rfl rfl fun b1723 a w hk hS => ⟨stN (hk), ?_⟩)
                  replace hS := hS.lit (R := R_KeyD) (us := [.int .i64 k_0.Kind, .string k_0.Text, .int .i64 (IntKind.i64.wrap (u1704 - 1)), .string k_0.Text, .int .i64 (IntKind.i64.wrap (u1706 - 1)), .string (ByteArray.mk #[]), .int .i64 (IntKind.i64.wrap (30 + u1708)), .string text_, .int .i64 (IntKind.i64.wrap (30 + u1712)), .string e1716]) (xs := [k_0, (KeyD.mk (IntKind.i64.wrap (u1704 - 1)) k_0.Text), (KeyD.mk (IntKind.i64.wrap (u1706 - 1)) (ByteArray.mk #[])), (KeyD.mk (IntKind.i64.wrap (30 + u1708)) text_), (KeyD.mk (IntKind.i64.wrap (30 + u1712)) e1716)]) 0 rfl (by decide) ((RowsOk.one_ (R := R_KeyD) (x := k_0) rfl).append ((RowsOk.one_ (R := R_KeyD) (x := (KeyD.mk (IntKind.i64.wrap (u1704 - 1)) k_0.Text)) rfl).append ((RowsOk.one_ (R := R_KeyD) (x := (KeyD.mk (IntKind.i64.wrap (u1706 - 1)) (ByteArray.mk #[]))) rfl).append ((RowsOk.one_ (R := R_KeyD) (x := (KeyD.mk (IntKind.i64.wrap (30 + u1708)) text_)) rfl).append (RowsOk.one_ (R := R_KeyD) (x := (KeyD.mk (IntKind.i64.wrap (30 + u1712)) e1716)) rfl))))) rfl rfl
                  refine dy 26 (v := .int .i64 (([k_0, (KeyD.mk (IntKind.i64.wrap (u1704 - 1)) k_0.Text), (KeyD.mk (IntKind.i64.wrap (u1706 - 1)) (ByteArray.mk #[])), (KeyD.mk (IntKind.i64.wrap (30 + u1708)) text_), (KeyD.mk (IntKind.i64.wrap (30 + u1712)) e1716)]).length : Int)) rfl (by kernel_rfl) (by kernel_rfl) (by kernel_rfl) rfl hQ hS (y_leno (R := R_KeyD) (xs := [k_0, (KeyD.mk (IntKind.i64.wrap (u1704 - 1)) k_0.Text), (KeyD.mk (IntKind.i64.wrap (u1706 - 1)) (ByteArray.mk #[])), (KeyD.mk (IntKind.i64.wrap (30 + u1708)) text_), (KeyD.mk (IntKind.i64.wrap (30 + u1712)) e1716)]) hS sl22 rfl 0 rfl 0 rfl) rfl rfl rfl fun a hS => ?_
                  refine wpE_done (by kernel_rfl) ?_ _
                  try simp only [Exit.then, Exit.inBlock, ↓reduceIte, Nat.reduceEqDiff]
                  exact ⟨([k_0, (KeyD.mk (IntKind.i64.wrap (u1704 - 1)) k_0.Text), (KeyD.mk (IntKind.i64.wrap (u1706 - 1)) (ByteArray.mk #[])), (KeyD.mk (IntKind.i64.wrap (30 + u1708)) text_), (KeyD.mk (IntKind.i64.wrap (30 + u1712)) e1716)]), (([k_0, (KeyD.mk (IntKind.i64.wrap (u1704 - 1)) k_0.Text), (KeyD.mk (IntKind.i64.wrap (u1706 - 1)) (ByteArray.mk #[])), (KeyD.mk (IntKind.i64.wrap (30 + u1708)) text_), (KeyD.mk (IntKind.i64.wrap (30 + u1712)) e1716)]).length : Int), (.slice (some ⟨b1723, 0, none⟩) 5 5), ([.int .i64 k_0.Kind, .string k_0.Text, .int .i64 (IntKind.i64.wrap (u1704 - 1)), .string k_0.Text, .int .i64 (IntKind.i64.wrap (u1706 - 1)), .string (ByteArray.mk #[]), .int .i64 (IntKind.i64.wrap (30 + u1708)), .string text_, .int .i64 (IntKind.i64.wrap (30 + u1712)), .string e1716]), (hS.meet [0] (by decide) ⟨rfl, rfl, rfl, rfl, rfl, trivial⟩ ⟨rfl, trivial⟩ ⟨⟨4, rfl⟩, ⟨0, rfl⟩, ⟨5, rfl⟩, trivial⟩), hM⟩
              · skip
                refine id (k_bslice (ps := [(0, .const (.string ⟨#[48]⟩)), (1, .const (.string ⟨#[57, 57]⟩)), (2, .const (.string ⟨#[49, 48, 48]⟩)), (3, .const (.string ⟨#[48, 55]⟩)), (4, .const (.string ⟨#[45, 49]⟩)), (5, .const (.string ⟨#[43, 49]⟩)), (6, .const (.string ⟨#[49, 32]⟩))]) hS el32 ze9 (zl := [.string (ByteArray.mk #[]), .string (ByteArray.mk #[]), .string (ByteArray.mk #[]), .string (ByteArray.mk #[]), .string (ByteArray.mk #[]), .string (ByteArray.mk #[]), .string (ByteArray.mk #[])]) (by kernel_rfl) rfl (us := [[.string (ByteArray.mk #[48])], [.string (ByteArray.mk #[57, 57])], [.string (ByteArray.mk #[49, 48, 48])], [.string (ByteArray.mk #[48, 55])], [.string (ByteArray.mk #[45, 49])], [.string (ByteArray.mk #[43, 49])], [.string (ByteArray.mk #[49, 32])]]) ⟨rfl, ⟨rfl, ⟨rfl, ⟨rfl, ⟨rfl, ⟨rfl, ⟨rfl, trivial⟩⟩⟩⟩⟩⟩⟩ (ws := [.string (ByteArray.mk #[48]), .string (ByteArray.mk #[57, 57]), .string (ByteArray.mk #[49, 48, 48]), .string (ByteArray.mk #[48, 55]), .string (ByteArray.mk #[45, 49]), .string (ByteArray.mk #[43, 49]), .string (ByteArray.mk #[49, 32])]) rfl rfl rfl rfl fun b1707 a w hk hS => ⟨stN (hk), ?_⟩)
                refine wpE_one (i := 8) rfl (by kernel_rfl) rfl (k_call hS ci18 rfl rfl (mill_Mod_c _ _ hS.dlt kind_ 36 _ hu1706) fun _ w hR a hk hA => ⟨stN (hk), ?_⟩)
                have he := Eq.symm hR
                subst he
                have hS := hA [] (fun r hr => by cases hr) List.Pairwise.nil
                refine dy 9 (v := .int .i64 (IntKind.i64.wrap (u1706 - 1))) rfl (by kernel_rfl) (by kernel_rfl) (by kernel_rfl) rfl hQ hS (y_int hS rfl rfl rfl) rfl rfl rfl fun a hS => ?_
                refine dy 10 (v := .agg #[.int .i64 (IntKind.i64.wrap (u1706 - 1)), .string (ByteArray.mk #[])]) rfl (by kernel_rfl) (by kernel_rfl) (by kernel_rfl) rfl hQ hS (y_build (ps := [(0, .tmp 39)]) hS pl28 ze28 rfl (us := [[.int .i64 (IntKind.i64.wrap (u1706 - 1))]]) ⟨rfl, trivial⟩ (ws := [.int .i64 (IntKind.i64.wrap (u1706 - 1)), .string (ByteArray.mk #[])]) rfl) rfl rfl rfl fun a hS => ?_
                obtain ⟨u1710, hu1710, hM⟩ := bd hM
                refine wpE_one (i := 12) rfl (by kernel_rfl) rfl (k_call hS ci18 rfl rfl (mill_Mod_c _ _ hS.dlt kind_ 3 _ hu1710) fun _ w hR a hk hA => ⟨stN (hk), ?_⟩)
                have he := Eq.symm hR
                subst he
                have hS := hA [] (fun r hr => by cases hr) List.Pairwise.nil
                refine dy 13 (v := .int .i64 (IntKind.i64.wrap (30 + u1710))) rfl (by kernel_rfl) (by kernel_rfl) (by kernel_rfl) rfl hQ hS (y_int hS rfl rfl rfl) rfl rfl rfl fun a hS => ?_
                refine dy 15 (v := .agg #[.int .i64 (IntKind.i64.wrap (30 + u1710)), .string text_]) rfl (by kernel_rfl) (by kernel_rfl) (by kernel_rfl) rfl hQ hS (y_build (ps := [(0, .tmp 43), (1, .tmp 44)]) hS pl28 ze28 rfl (us := [[.int .i64 (IntKind.i64.wrap (30 + u1710))], [.string text_]]) ⟨rfl, ⟨rfl, trivial⟩⟩ (ws := [.int .i64 (IntKind.i64.wrap (30 + u1710)), .string text_]) rfl) rfl rfl rfl fun a hS => ?_
                obtain ⟨u1712, hu1712, hM⟩ := bd hM
                refine wpE_one (i := 17) rfl (by kernel_rfl) rfl (k_call hS ci18 rfl rfl (mill_Mod_c _ _ hS.dlt kind_ 3 _ hu1712) fun _ w hR a hk hA => ⟨stN (hk), ?_⟩)
                have he := Eq.symm hR
                subst he
                have hS := hA [] (fun r hr => by cases hr) List.Pairwise.nil
                refine dy 18 (v := .int .i64 (IntKind.i64.wrap (30 + u1712))) rfl (by kernel_rfl) (by kernel_rfl) (by kernel_rfl) rfl hQ hS (y_int hS rfl rfl rfl) rfl rfl rfl fun a hS => ?_
                obtain ⟨u1714, hu1714, hM⟩ := bd hM
                refine wpE_one (i := 21) rfl (by kernel_rfl) rfl (k_call hS ci18 rfl rfl (mill_Mod_c _ _ hS.dlt n_2 7 _ hu1714) fun _ w hR a hk hA => ⟨stN (hk), ?_⟩)
                have he := Eq.symm hR
                subst he
                have hS := hA [] (fun r hr => by cases hr) List.Pairwise.nil
                replace hS := hS.lit (R := Rep.str) (us := [.string (ByteArray.mk #[48]), .string (ByteArray.mk #[57, 57]), .string (ByteArray.mk #[49, 48, 48]), .string (ByteArray.mk #[48, 55]), .string (ByteArray.mk #[45, 49]), .string (ByteArray.mk #[43, 49]), .string (ByteArray.mk #[49, 32])]) (xs := [(ByteArray.mk #[48]), (ByteArray.mk #[57, 57]), (ByteArray.mk #[49, 48, 48]), (ByteArray.mk #[48, 55]), (ByteArray.mk #[45, 49]), (ByteArray.mk #[43, 49]), (ByteArray.mk #[49, 32])]) 0 rfl (by decide) ((RowsOk.one_ (R := Rep.str) (x := (ByteArray.mk #[48])) rfl).append ((RowsOk.one_ (R := Rep.str) (x := (ByteArray.mk #[57, 57])) rfl).append ((RowsOk.one_ (R := Rep.str) (x := (ByteArray.mk #[49, 48, 48])) rfl).append ((RowsOk.one_ (R := Rep.str) (x := (ByteArray.mk #[48, 55])) rfl).append ((RowsOk.one_ (R := Rep.str) (x := (ByteArray.mk #[45, 49])) rfl).append ((RowsOk.one_ (R := Rep.str) (x := (ByteArray.mk #[43, 49])) rfl).append (RowsOk.one_ (R := Rep.str) (x := (ByteArray.mk #[49, 32])) rfl))))))) rfl rfl
                replace hS := hS.freeze (R := Rep.str) 0 rfl 0 rfl
                obtain ⟨e1716, he1716, hM⟩ := bd hM
                obtain ⟨b1717, o1718, cs1720, hr1719, hy1722, hS⟩ := d_index (R := Rep.str) hS sl32 ty9 0 rfl he1716
                obtain rfl := hr1719
                refine dy 22 (v := .pointer (some ⟨b1717, o1718, none⟩)) rfl (by kernel_rfl) (by kernel_rfl) (by kernel_rfl) rfl hQ hS (hy1722 rfl rfl) rfl rfl rfl fun a hS => ?_
                refine dy (l := []) 23 (v := .string e1716) rfl (by kernel_rfl) (by kernel_rfl) (by kernel_rfl) (by kernel_rfl) hQ hS (y_loadc (k := 0) hS ty9 0 rfl rfl es_nil (us := [.string e1716]) rfl rfl (fun _ => rfl)) rfl rfl rfl fun a hS => ?_
                refine dy 24 (v := .agg #[.int .i64 (IntKind.i64.wrap (30 + u1712)), .string e1716]) rfl (by kernel_rfl) (by kernel_rfl) (by kernel_rfl) rfl hQ hS (y_build (ps := [(0, .tmp 48), (1, .tmp 53)]) hS pl28 ze28 rfl (us := [[.int .i64 (IntKind.i64.wrap (30 + u1712))], [.string e1716]]) ⟨rfl, ⟨rfl, trivial⟩⟩ (ws := [.int .i64 (IntKind.i64.wrap (30 + u1712)), .string e1716]) rfl) rfl rfl rfl fun a hS => ?_
                refine wpE_one (i := 25) rfl (by kernel_rfl) rfl (k_bslice (ps := [(0, .tmp 30), (1, .tmp 36), (2, .tmp 40), (3, .tmp 45), (4, .tmp 54)]) hS el22 ze28 (zl := [.int .i64 0, .string (ByteArray.mk #[]), .int .i64 0, .string (ByteArray.mk #[]), .int .i64 0, .string (ByteArray.mk #[]), .int .i64 0, .string (ByteArray.mk #[]), .int .i64 0, .string (ByteArray.mk #[])]) (by kernel_rfl) rfl (us := [[.int .i64 k_0.Kind, .string k_0.Text], [.int .i64 (IntKind.i64.wrap (u1704 - 1)), .string k_0.Text], [.int .i64 (IntKind.i64.wrap (u1706 - 1)), .string (ByteArray.mk #[])], [.int .i64 (IntKind.i64.wrap (30 + u1710)), .string text_], [.int .i64 (IntKind.i64.wrap (30 + u1712)), .string e1716]]) ⟨rfl, ⟨rfl, ⟨rfl, ⟨rfl, ⟨rfl, trivial⟩⟩⟩⟩⟩ (ws := [.int .i64 k_0.Kind, .string k_0.Text, .int .i64 (IntKind.i64.wrap (u1704 - 1)), .string k_0.Text, .int .i64 (IntKind.i64.wrap (u1706 - 1)), .string (ByteArray.mk #[]), .int .i64 (IntKind.i64.wrap (30 + u1710)), .string text_, .int .i64 (IntKind.i64.wrap (30 + u1712)), .string e1716]) rfl rfl rfl rfl fun b1723 a w hk hS => ⟨stN (hk), ?_⟩)
                replace hS := hS.lit (R := R_KeyD) (us := [.int .i64 k_0.Kind, .string k_0.Text, .int .i64 (IntKind.i64.wrap (u1704 - 1)), .string k_0.Text, .int .i64 (IntKind.i64.wrap (u1706 - 1)), .string (ByteArray.mk #[]), .int .i64 (IntKind.i64.wrap (30 + u1710)), .string text_, .int .i64 (IntKind.i64.wrap (30 + u1712)), .string e1716]) (xs := [k_0, (KeyD.mk (IntKind.i64.wrap (u1704 - 1)) k_0.Text), (KeyD.mk (IntKind.i64.wrap (u1706 - 1)) (ByteArray.mk #[])), (KeyD.mk (IntKind.i64.wrap (30 + u1710)) text_), (KeyD.mk (IntKind.i64.wrap (30 + u1712)) e1716)]) 0 rfl (by decide) ((RowsOk.one_ (R := R_KeyD) (x := k_0) rfl).append ((RowsOk.one_ (R := R_KeyD) (x := (KeyD.mk (IntKind.i64.wrap (u1704 - 1)) k_0.Text)) rfl).append ((RowsOk.one_ (R := R_KeyD) (x := (KeyD.mk (IntKind.i64.wrap (u1706 - 1)) (ByteArray.mk #[]))) rfl).append ((RowsOk.one_ (R := R_KeyD) (x := (KeyD.mk (IntKind.i64.wrap (30 + u1710)) text_)) rfl).append (RowsOk.one_ (R := R_KeyD) (x := (KeyD.mk (IntKind.i64.wrap (30 + u1712)) e1716)) rfl))))) rfl rfl
                refine dy 26 (v := .int .i64 (([k_0, (KeyD.mk (IntKind.i64.wrap (u1704 - 1)) k_0.Text), (KeyD.mk (IntKind.i64.wrap (u1706 - 1)) (ByteArray.mk #[])), (KeyD.mk (IntKind.i64.wrap (30 + u1710)) text_), (KeyD.mk (IntKind.i64.wrap (30 + u1712)) e1716)]).length : Int)) rfl (by kernel_rfl) (by kernel_rfl) (by kernel_rfl) rfl hQ hS (y_leno (R := R_KeyD) (xs := [k_0, (KeyD.mk (IntKind.i64.wrap (u1704 - 1)) k_0.Text), (KeyD.mk (IntKind.i64.wrap (u1706 - 1)) (ByteArray.mk #[])), (KeyD.mk (IntKind.i64.wrap (30 + u1710)) text_), (KeyD.mk (IntKind.i64.wrap (30 + u1712)) e1716)]) hS sl22 rfl 0 rfl 0 rfl) rfl rfl rfl fun a hS => ?_
                refine wpE_done (by kernel_rfl) ?_ _
                try simp only [Exit.then, Exit.inBlock, ↓reduceIte, Nat.reduceEqDiff]
                exact ⟨([k_0, (KeyD.mk (IntKind.i64.wrap (u1704 - 1)) k_0.Text), (KeyD.mk (IntKind.i64.wrap (u1706 - 1)) (ByteArray.mk #[])), (KeyD.mk (IntKind.i64.wrap (30 + u1710)) text_), (KeyD.mk (IntKind.i64.wrap (30 + u1712)) e1716)]), (([k_0, (KeyD.mk (IntKind.i64.wrap (u1704 - 1)) k_0.Text), (KeyD.mk (IntKind.i64.wrap (u1706 - 1)) (ByteArray.mk #[])), (KeyD.mk (IntKind.i64.wrap (30 + u1710)) text_), (KeyD.mk (IntKind.i64.wrap (30 + u1712)) e1716)]).length : Int), (.slice (some ⟨b1723, 0, none⟩) 5 5), ([.int .i64 k_0.Kind, .string k_0.Text, .int .i64 (IntKind.i64.wrap (u1704 - 1)), .string k_0.Text, .int .i64 (IntKind.i64.wrap (u1706 - 1)), .string (ByteArray.mk #[]), .int .i64 (IntKind.i64.wrap (30 + u1710)), .string text_, .int .i64 (IntKind.i64.wrap (30 + u1712)), .string e1716]), (hS.meet [0] (by decide) ⟨rfl, rfl, rfl, rfl, rfl, trivial⟩ ⟨rfl, trivial⟩ ⟨⟨4, rfl⟩, ⟨0, rfl⟩, ⟨5, rfl⟩, trivial⟩), hM⟩
            · skip
              refine id (k_bslice (ps := [(0, .const (.string ⟨#[48]⟩)), (1, .const (.string ⟨#[57, 57]⟩)), (2, .const (.string ⟨#[49, 48, 48]⟩)), (3, .const (.string ⟨#[48, 55]⟩)), (4, .const (.string ⟨#[45, 49]⟩)), (5, .const (.string ⟨#[43, 49]⟩)), (6, .const (.string ⟨#[49, 32]⟩))]) hS el32 ze9 (zl := [.string (ByteArray.mk #[]), .string (ByteArray.mk #[]), .string (ByteArray.mk #[]), .string (ByteArray.mk #[]), .string (ByteArray.mk #[]), .string (ByteArray.mk #[]), .string (ByteArray.mk #[])]) (by kernel_rfl) rfl (us := [[.string (ByteArray.mk #[48])], [.string (ByteArray.mk #[57, 57])], [.string (ByteArray.mk #[49, 48, 48])], [.string (ByteArray.mk #[48, 55])], [.string (ByteArray.mk #[45, 49])], [.string (ByteArray.mk #[43, 49])], [.string (ByteArray.mk #[49, 32])]]) ⟨rfl, ⟨rfl, ⟨rfl, ⟨rfl, ⟨rfl, ⟨rfl, ⟨rfl, trivial⟩⟩⟩⟩⟩⟩⟩ (ws := [.string (ByteArray.mk #[48]), .string (ByteArray.mk #[57, 57]), .string (ByteArray.mk #[49, 48, 48]), .string (ByteArray.mk #[48, 55]), .string (ByteArray.mk #[45, 49]), .string (ByteArray.mk #[43, 49]), .string (ByteArray.mk #[49, 32])]) rfl rfl rfl rfl fun b1705 a w hk hS => ⟨stN (hk), ?_⟩)
              refine wpE_one (i := 2) rfl (by kernel_rfl) rfl (k_call hS ci18 rfl rfl (mill_Mod_c _ _ hS.dlt kind_ 36 _ hu1704) fun _ w hR a hk hA => ⟨stN (hk), ?_⟩)
              have he := Eq.symm hR
              subst he
              have hS := hA [] (fun r hr => by cases hr) List.Pairwise.nil
              refine dy 3 (v := .int .i64 (IntKind.i64.wrap (u1704 - 1))) rfl (by kernel_rfl) (by kernel_rfl) (by kernel_rfl) rfl hQ hS (y_int hS rfl rfl rfl) rfl rfl rfl fun a hS => ?_
              refine dy 6 (v := .agg #[.int .i64 (IntKind.i64.wrap (u1704 - 1)), .string k_0.Text]) rfl (by kernel_rfl) (by kernel_rfl) (by kernel_rfl) rfl hQ hS (y_build (ps := [(0, .tmp 33), (1, .tmp 35)]) hS pl28 ze28 rfl (us := [[.int .i64 (IntKind.i64.wrap (u1704 - 1))], [.string k_0.Text]]) ⟨rfl, ⟨rfl, trivial⟩⟩ (ws := [.int .i64 (IntKind.i64.wrap (u1704 - 1)), .string k_0.Text]) rfl) rfl rfl rfl fun a hS => ?_
              obtain ⟨u1708, hu1708, hM⟩ := bd hM
              refine wpE_one (i := 8) rfl (by kernel_rfl) rfl (k_call hS ci18 rfl rfl (mill_Mod_c _ _ hS.dlt kind_ 36 _ hu1708) fun _ w hR a hk hA => ⟨stN (hk), ?_⟩)
              have he := Eq.symm hR
              subst he
              have hS := hA [] (fun r hr => by cases hr) List.Pairwise.nil
              refine dy 9 (v := .int .i64 (IntKind.i64.wrap (u1708 - 1))) rfl (by kernel_rfl) (by kernel_rfl) (by kernel_rfl) rfl hQ hS (y_int hS rfl rfl rfl) rfl rfl rfl fun a hS => ?_
              refine dy 10 (v := .agg #[.int .i64 (IntKind.i64.wrap (u1708 - 1)), .string (ByteArray.mk #[])]) rfl (by kernel_rfl) (by kernel_rfl) (by kernel_rfl) rfl hQ hS (y_build (ps := [(0, .tmp 39)]) hS pl28 ze28 rfl (us := [[.int .i64 (IntKind.i64.wrap (u1708 - 1))]]) ⟨rfl, trivial⟩ (ws := [.int .i64 (IntKind.i64.wrap (u1708 - 1)), .string (ByteArray.mk #[])]) rfl) rfl rfl rfl fun a hS => ?_
              obtain ⟨u1710, hu1710, hM⟩ := bd hM
              refine wpE_one (i := 12) rfl (by kernel_rfl) rfl (k_call hS ci18 rfl rfl (mill_Mod_c _ _ hS.dlt kind_ 3 _ hu1710) fun _ w hR a hk hA => ⟨stN (hk), ?_⟩)
              have he := Eq.symm hR
              subst he
              have hS := hA [] (fun r hr => by cases hr) List.Pairwise.nil
              refine dy 13 (v := .int .i64 (IntKind.i64.wrap (30 + u1710))) rfl (by kernel_rfl) (by kernel_rfl) (by kernel_rfl) rfl hQ hS (y_int hS rfl rfl rfl) rfl rfl rfl fun a hS => ?_
              refine dy 15 (v := .agg #[.int .i64 (IntKind.i64.wrap (30 + u1710)), .string text_]) rfl (by kernel_rfl) (by kernel_rfl) (by kernel_rfl) rfl hQ hS (y_build (ps := [(0, .tmp 43), (1, .tmp 44)]) hS pl28 ze28 rfl (us := [[.int .i64 (IntKind.i64.wrap (30 + u1710))], [.string text_]]) ⟨rfl, ⟨rfl, trivial⟩⟩ (ws := [.int .i64 (IntKind.i64.wrap (30 + u1710)), .string text_]) rfl) rfl rfl rfl fun a hS => ?_
              obtain ⟨u1712, hu1712, hM⟩ := bd hM
              refine wpE_one (i := 17) rfl (by kernel_rfl) rfl (k_call hS ci18 rfl rfl (mill_Mod_c _ _ hS.dlt kind_ 3 _ hu1712) fun _ w hR a hk hA => ⟨stN (hk), ?_⟩)
              have he := Eq.symm hR
              subst he
              have hS := hA [] (fun r hr => by cases hr) List.Pairwise.nil
              refine dy 18 (v := .int .i64 (IntKind.i64.wrap (30 + u1712))) rfl (by kernel_rfl) (by kernel_rfl) (by kernel_rfl) rfl hQ hS (y_int hS rfl rfl rfl) rfl rfl rfl fun a hS => ?_
              obtain ⟨u1714, hu1714, hM⟩ := bd hM
              refine wpE_one (i := 21) rfl (by kernel_rfl) rfl (k_call hS ci18 rfl rfl (mill_Mod_c _ _ hS.dlt n_2 7 _ hu1714) fun _ w hR a hk hA => ⟨stN (hk), ?_⟩)
              have he := Eq.symm hR
              subst he
              have hS := hA [] (fun r hr => by cases hr) List.Pairwise.nil
              replace hS := hS.lit (R := Rep.str) (us := [.string (ByteArray.mk #[48]), .string (ByteArray.mk #[57, 57]), .string (ByteArray.mk #[49, 48, 48]), .string (ByteArray.mk #[48, 55]), .string (ByteArray.mk #[45, 49]), .string (ByteArray.mk #[43, 49]), .string (ByteArray.mk #[49, 32])]) (xs := [(ByteArray.mk #[48]), (ByteArray.mk #[57, 57]), (ByteArray.mk #[49, 48, 48]), (ByteArray.mk #[48, 55]), (ByteArray.mk #[45, 49]), (ByteArray.mk #[43, 49]), (ByteArray.mk #[49, 32])]) 0 rfl (by decide) ((RowsOk.one_ (R := Rep.str) (x := (ByteArray.mk #[48])) rfl).append ((RowsOk.one_ (R := Rep.str) (x := (ByteArray.mk #[57, 57])) rfl).append ((RowsOk.one_ (R := Rep.str) (x := (ByteArray.mk #[49, 48, 48])) rfl).append ((RowsOk.one_ (R := Rep.str) (x := (ByteArray.mk #[48, 55])) rfl).append ((RowsOk.one_ (R := Rep.str) (x := (ByteArray.mk #[45, 49])) rfl).append ((RowsOk.one_ (R := Rep.str) (x := (ByteArray.mk #[43, 49])) rfl).append (RowsOk.one_ (R := Rep.str) (x := (ByteArray.mk #[49, 32])) rfl))))))) rfl rfl
              replace hS := hS.freeze (R := Rep.str) 0 rfl 0 rfl
              obtain ⟨e1716, he1716, hM⟩ := bd hM
              obtain ⟨b1717, o1718, cs1720, hr1719, hy1722, hS⟩ := d_index (R := Rep.str) hS sl32 ty9 0 rfl he1716
              obtain rfl := hr1719
              refine dy 22 (v := .pointer (some ⟨b1717, o1718, none⟩)) rfl (by kernel_rfl) (by kernel_rfl) (by kernel_rfl) rfl hQ hS (hy1722 rfl rfl) rfl rfl rfl fun a hS => ?_
              refine dy (l := []) 23 (v := .string e1716) rfl (by kernel_rfl) (by kernel_rfl) (by kernel_rfl) (by kernel_rfl) hQ hS (y_loadc (k := 0) hS ty9 0 rfl rfl es_nil (us := [.string e1716]) rfl rfl (fun _ => rfl)) rfl rfl rfl fun a hS => ?_
              refine dy 24 (v := .agg #[.int .i64 (IntKind.i64.wrap (30 + u1712)), .string e1716]) rfl (by kernel_rfl) (by kernel_rfl) (by kernel_rfl) rfl hQ hS (y_build (ps := [(0, .tmp 48), (1, .tmp 53)]) hS pl28 ze28 rfl (us := [[.int .i64 (IntKind.i64.wrap (30 + u1712))], [.string e1716]]) ⟨rfl, ⟨rfl, trivial⟩⟩ (ws := [.int .i64 (IntKind.i64.wrap (30 + u1712)), .string e1716]) rfl) rfl rfl rfl fun a hS => ?_
              refine wpE_one (i := 25) rfl (by kernel_rfl) rfl (k_bslice (ps := [(0, .tmp 30), (1, .tmp 36), (2, .tmp 40), (3, .tmp 45), (4, .tmp 54)]) hS el22 ze28 (zl := [.int .i64 0, .string (ByteArray.mk #[]), .int .i64 0, .string (ByteArray.mk #[]), .int .i64 0, .string (ByteArray.mk #[]), .int .i64 0, .string (ByteArray.mk #[]), .int .i64 0, .string (ByteArray.mk #[])]) (by kernel_rfl) rfl (us := [[.int .i64 k_0.Kind, .string k_0.Text], [.int .i64 (IntKind.i64.wrap (u1704 - 1)), .string k_0.Text], [.int .i64 (IntKind.i64.wrap (u1708 - 1)), .string (ByteArray.mk #[])], [.int .i64 (IntKind.i64.wrap (30 + u1710)), .string text_], [.int .i64 (IntKind.i64.wrap (30 + u1712)), .string e1716]]) ⟨rfl, ⟨rfl, ⟨rfl, ⟨rfl, ⟨rfl, trivial⟩⟩⟩⟩⟩ (ws := [.int .i64 k_0.Kind, .string k_0.Text, .int .i64 (IntKind.i64.wrap (u1704 - 1)), .string k_0.Text, .int .i64 (IntKind.i64.wrap (u1708 - 1)), .string (ByteArray.mk #[]), .int .i64 (IntKind.i64.wrap (30 + u1710)), .string text_, .int .i64 (IntKind.i64.wrap (30 + u1712)), .string e1716]) rfl rfl rfl rfl fun b1723 a w hk hS => ⟨stN (hk), ?_⟩)
              replace hS := hS.lit (R := R_KeyD) (us := [.int .i64 k_0.Kind, .string k_0.Text, .int .i64 (IntKind.i64.wrap (u1704 - 1)), .string k_0.Text, .int .i64 (IntKind.i64.wrap (u1708 - 1)), .string (ByteArray.mk #[]), .int .i64 (IntKind.i64.wrap (30 + u1710)), .string text_, .int .i64 (IntKind.i64.wrap (30 + u1712)), .string e1716]) (xs := [k_0, (KeyD.mk (IntKind.i64.wrap (u1704 - 1)) k_0.Text), (KeyD.mk (IntKind.i64.wrap (u1708 - 1)) (ByteArray.mk #[])), (KeyD.mk (IntKind.i64.wrap (30 + u1710)) text_), (KeyD.mk (IntKind.i64.wrap (30 + u1712)) e1716)]) 0 rfl (by decide) ((RowsOk.one_ (R := R_KeyD) (x := k_0) rfl).append ((RowsOk.one_ (R := R_KeyD) (x := (KeyD.mk (IntKind.i64.wrap (u1704 - 1)) k_0.Text)) rfl).append ((RowsOk.one_ (R := R_KeyD) (x := (KeyD.mk (IntKind.i64.wrap (u1708 - 1)) (ByteArray.mk #[]))) rfl).append ((RowsOk.one_ (R := R_KeyD) (x := (KeyD.mk (IntKind.i64.wrap (30 + u1710)) text_)) rfl).append (RowsOk.one_ (R := R_KeyD) (x := (KeyD.mk (IntKind.i64.wrap (30 + u1712)) e1716)) rfl))))) rfl rfl
              refine dy 26 (v := .int .i64 (([k_0, (KeyD.mk (IntKind.i64.wrap (u1704 - 1)) k_0.Text), (KeyD.mk (IntKind.i64.wrap (u1708 - 1)) (ByteArray.mk #[])), (KeyD.mk (IntKind.i64.wrap (30 + u1710)) text_), (KeyD.mk (IntKind.i64.wrap (30 + u1712)) e1716)]).length : Int)) rfl (by kernel_rfl) (by kernel_rfl) (by kernel_rfl) rfl hQ hS (y_leno (R := R_KeyD) (xs := [k_0, (KeyD.mk (IntKind.i64.wrap (u1704 - 1)) k_0.Text), (KeyD.mk (IntKind.i64.wrap (u1708 - 1)) (ByteArray.mk #[])), (KeyD.mk (IntKind.i64.wrap (30 + u1710)) text_), (KeyD.mk (IntKind.i64.wrap (30 + u1712)) e1716)]) hS sl22 rfl 0 rfl 0 rfl) rfl rfl rfl fun a hS => ?_
              refine wpE_done (by kernel_rfl) ?_ _
              try simp only [Exit.then, Exit.inBlock, ↓reduceIte, Nat.reduceEqDiff]
              exact ⟨([k_0, (KeyD.mk (IntKind.i64.wrap (u1704 - 1)) k_0.Text), (KeyD.mk (IntKind.i64.wrap (u1708 - 1)) (ByteArray.mk #[])), (KeyD.mk (IntKind.i64.wrap (30 + u1710)) text_), (KeyD.mk (IntKind.i64.wrap (30 + u1712)) e1716)]), (([k_0, (KeyD.mk (IntKind.i64.wrap (u1704 - 1)) k_0.Text), (KeyD.mk (IntKind.i64.wrap (u1708 - 1)) (ByteArray.mk #[])), (KeyD.mk (IntKind.i64.wrap (30 + u1710)) text_), (KeyD.mk (IntKind.i64.wrap (30 + u1712)) e1716)]).length : Int), (.slice (some ⟨b1723, 0, none⟩) 5 5), ([.int .i64 k_0.Kind, .string k_0.Text, .int .i64 (IntKind.i64.wrap (u1704 - 1)), .string k_0.Text, .int .i64 (IntKind.i64.wrap (u1708 - 1)), .string (ByteArray.mk #[]), .int .i64 (IntKind.i64.wrap (30 + u1710)), .string text_, .int .i64 (IntKind.i64.wrap (30 + u1712)), .string e1716]), (hS.meet [0] (by decide) ⟨rfl, rfl, rfl, rfl, rfl, trivial⟩ ⟨rfl, trivial⟩ ⟨⟨4, rfl⟩, ⟨0, rfl⟩, ⟨5, rfl⟩, trivial⟩), hM⟩
          · rintro a w ⟨g1408, g1412, v1409, cl1410, hS, hM⟩
            unfold law23_KeyKinds_j5 at hM
            refine wp_block ?_
            obtain ⟨r1, hl1, hMo1⟩ := bd hM
            refine wp_lp (fun s : Int => law23_KeyKinds_l4 g1408 g1412 s) (fun s a w => ∃ (g1503 : Int), g1503 = s ∧ St W0 No T 119 [(2, .int .i64 n_2), (3, v1), (55, v1409), (56, .int .i64 g1412), (57, .int .i64 g1503)] [.own v1409 28 R_KeyD.size cl1410] [SlF R_RuleD v1 rules_, RowsF R_KeyD cl1410 g1408, LvF] a w) hl1 ⟨0, rfl, (hS.meet [0] (by decide) ⟨rfl, rfl, rfl, rfl, rfl, trivial⟩ ⟨rfl, trivial⟩ ⟨⟨0, rfl⟩, ⟨1, rfl⟩, ⟨2, rfl⟩, trivial⟩)⟩ ?_
            rintro s a w f1 ⟨g1503, rfl, hS⟩ hM hf1
            have hM : law23_KeyKinds_l4 g1408 g1412 g1503 = some f1 := hM
            unfold law23_KeyKinds_l4 at hM
            refine wp_seq_k fun K154 hK154 => ?_
            refine r_list ?_
            refine wl rfl (ky (v := .bool (decide ((g1503 : Int) < g1412))) hS (y_int hS rfl rfl rfl) rfl rfl fun a hS => ?_)
            refine wpList_nil ?_
            try simp only [Exit.then, Exit.inBlock, ↓reduceIte, Nat.reduceEqDiff]
            refine hK154 _ _ ?_
            refine wp_seq_k fun K155 hK155 => ?_
            rcases bool2 (decide ((g1503 : Int) < g1412)) with hb1594 | hb1594
            · replace hM := ct hb1594 hM
              refine c_t hS rfl hb1594 ?_
              refine wp_skip ?_
              try simp only [Exit.then, Exit.inBlock, ↓reduceIte, Nat.reduceEqDiff]
              refine hK155 _ _ ?_
              refine wp_seq_k fun K156 hK156 => ?_
              refine wp_block ?_
              refine wp_seq_k fun K157 hK157 => ?_
              refine r_list ?_
              obtain ⟨e1595, he1595, hM⟩ := bd hM
              refine wl rfl (k_indexo (R := R_KeyD) hS sl22 ty28 rfl rfl 0 rfl 1 rfl he1595 rfl fun b1596 o1597 p1602 cs1599 hr1598 hO1600 hC1601 a hS => ?_)
              obtain rfl := hr1598
              refine wl rfl (ky (v := .agg #[.int .i64 e1595.Kind, .string e1595.Text]) hS (y_loado (k := 0) hS ty28 0 rfl hO1600 hC1601 rfl id (us := [.int .i64 e1595.Kind, .string e1595.Text]) rfl rfl (fun h => by cases h)) rfl rfl fun a hS => ?_)
              refine wl rfl (k_alloc hS ze28 rfl fun b1603 hnb1605 a w hk hS => ?_)
              refine wl rfl (k_store hS rfl rfl (us := [.int .i64 e1595.Kind, .string e1595.Text]) rfl ty28 0 rfl rfl rfl (oc rfl (oc rfl on)) fun w hk hS => ?_)
              refine wpList_nil ?_
              try simp only [Exit.then, Exit.inBlock, ↓reduceIte, Nat.reduceEqDiff]
              refine hK157 _ _ ?_
              refine wp_seq_k fun K158 hK158 => ?_
              refine draws [] hS mixed rfl (fun c a d v w h => by cases d <;> exact h) fun w hQ hS => ?_
              refine dy (l := []) 0 (v := .agg #[.int .i64 e1595.Kind, .string e1595.Text]) rfl (by kernel_rfl) (by kernel_rfl) (by kernel_rfl) (by kernel_rfl) hQ hS (y_load hS rfl ty28 0 rfl eo_nil (us := [.int .i64 e1595.Kind, .string e1595.Text]) rfl rfl (fun h => by cases h)) rfl rfl rfl fun a hS => ?_
              refine dy (l := []) 2 (v := .agg #[.int .i64 e1595.Kind, .string e1595.Text]) rfl (by kernel_rfl) (by kernel_rfl) (by kernel_rfl) (by kernel_rfl) hQ hS (y_load hS rfl ty28 0 rfl eo_nil (us := [.int .i64 e1595.Kind, .string e1595.Text]) rfl rfl (fun h => by cases h)) rfl rfl rfl fun a hS => ?_
              obtain ⟨u1663, hu1663, hM⟩ := bd hM
              refine wpE_one (i := 1) rfl (by kernel_rfl) rfl (k_call hS ci21 rfl rfl (key_Valid_c _ _ hS.dlt (hS.get 2 rfl) e1595 _ hu1663) fun _ w hR a hk hA => ⟨stN (hk), ?_⟩)
              have he := Eq.symm hR
              subst he
              have hS := hA [] (fun r hr => by cases hr) List.Pairwise.nil
              obtain ⟨u1665, hu1665, hM⟩ := bd hM
              refine wpE_one (i := 3) rfl (by kernel_rfl) rfl (k_call hS ci22 rfl rfl (ref23_Valid_c _ _ hS.dlt e1595 _ hu1665) fun _ w hR a hk hA => ⟨stN (hk), ?_⟩)
              have he := Eq.symm hR
              subst he
              have hS := hA [] (fun r hr => by cases hr) List.Pairwise.nil
              refine dy 4 (v := .bool (u1663 != u1665)) rfl (by kernel_rfl) (by kernel_rfl) (by kernel_rfl) rfl hQ hS (y_bool hS rfl rfl Tryd.underlying4 (.inr ⟨rfl, rfl⟩)) rfl rfl rfl fun a hS => ?_
              refine dy 5 (v := .bool (u1663 != u1665)) rfl (by kernel_rfl) (by kernel_rfl) (by kernel_rfl) rfl hQ hS (y_move hS rfl) rfl rfl rfl fun a hS => ?_
              rcases bool2 (u1663 != u1665) with hb1667 | hb1667
              · replace hM := ct hb1667 hM
                refine dyn 6 rfl (by kernel_rfl) (by kernel_rfl) (by kernel_rfl) hQ hS rfl rfl rfl hb1667 rfl rfl fun a hS => ?_
                refine dyn 7 rfl (by kernel_rfl) (by kernel_rfl) (by kernel_rfl) hQ hS rfl rfl rfl hb1667 rfl rfl fun a hS => ?_
                refine dyn 8 rfl (by kernel_rfl) (by kernel_rfl) (by kernel_rfl) hQ hS rfl rfl rfl hb1667 rfl rfl fun a hS => ?_
                refine dyn 9 rfl (by kernel_rfl) (by kernel_rfl) (by kernel_rfl) hQ hS rfl rfl rfl hb1667 rfl rfl fun a hS => ?_
                refine dyn 10 rfl (by kernel_rfl) (by kernel_rfl) (by kernel_rfl) hQ hS rfl rfl rfl hb1667 rfl rfl fun a hS => ?_
                refine dy 11 (v := .bool true) rfl (by kernel_rfl) (by kernel_rfl) (by kernel_rfl) rfl hQ hS (y_pickt hS rfl hb1667 rfl) rfl rfl rfl fun a hS => ?_
                refine dy 12 (v := .bool true) rfl (by kernel_rfl) (by kernel_rfl) (by kernel_rfl) rfl hQ hS (y_move hS rfl) rfl rfl rfl fun a hS => ?_
                refine dyn 13 rfl (by kernel_rfl) (by kernel_rfl) (by kernel_rfl) hQ hS rfl rfl rfl rfl rfl rfl fun a hS => ?_
                refine dyn 14 rfl (by kernel_rfl) (by kernel_rfl) (by kernel_rfl) hQ hS rfl rfl rfl rfl rfl rfl fun a hS => ?_
                refine dyn 15 rfl (by kernel_rfl) (by kernel_rfl) (by kernel_rfl) hQ hS rfl rfl rfl rfl rfl rfl fun a hS => ?_
                refine dyn 16 rfl (by kernel_rfl) (by kernel_rfl) (by kernel_rfl) hQ hS rfl rfl rfl rfl rfl rfl fun a hS => ?_
                refine dyn 17 rfl (by kernel_rfl) (by kernel_rfl) (by kernel_rfl) hQ hS rfl rfl rfl rfl rfl rfl fun a hS => ?_
                refine dy 18 (v := .bool true) rfl (by kernel_rfl) (by kernel_rfl) (by kernel_rfl) rfl hQ hS (y_pickt hS rfl rfl rfl) rfl rfl rfl fun a hS => ?_
                refine dy 19 (v := .bool true) rfl (by kernel_rfl) (by kernel_rfl) (by kernel_rfl) rfl hQ hS (y_move hS rfl) rfl rfl rfl fun a hS => ?_
                refine dyn 20 rfl (by kernel_rfl) (by kernel_rfl) (by kernel_rfl) hQ hS rfl rfl rfl rfl rfl rfl fun a hS => ?_
                refine dyn 21 rfl (by kernel_rfl) (by kernel_rfl) (by kernel_rfl) hQ hS rfl rfl rfl rfl rfl rfl fun a hS => ?_
                refine dyn 22 rfl (by kernel_rfl) (by kernel_rfl) (by kernel_rfl) hQ hS rfl rfl rfl rfl rfl rfl fun a hS => ?_
                refine dyn 23 rfl (by kernel_rfl) (by kernel_rfl) (by kernel_rfl) hQ hS rfl rfl rfl rfl rfl rfl fun a hS => ?_
                refine dyn 24 rfl (by kernel_rfl) (by kernel_rfl) (by kernel_rfl) hQ hS rfl rfl rfl rfl rfl rfl fun a hS => ?_
                refine dy 25 (v := .bool true) rfl (by kernel_rfl) (by kernel_rfl) (by kernel_rfl) rfl hQ hS (y_pickt hS rfl rfl rfl) rfl rfl rfl fun a hS => ?_
                refine wpE_done (by kernel_rfl) ?_ _
                try simp only [Exit.then, Exit.inBlock, ↓reduceIte, Nat.reduceEqDiff]
                refine hK158 _ _ ?_
                refine c_t hS rfl rfl ?_
                refine wp_seq_k fun K159 hK159 => ?_
                refine r_list ?_
                refine wl rfl (ky (v := .bool false) hS (y_assign hS rfl) rfl rfl fun a hS => ?_)
                refine wpList_nil ?_
                try simp only [Exit.then, Exit.inBlock, ↓reduceIte, Nat.reduceEqDiff]
                refine hK159 _ _ ?_
                refine wp_ret ?_
                injection hM with hM
                subst hM
                have hr := hf1 _ rfl
                subst hr
                replace hMo1 := el_out hMo1
                have hM := hMo1
                injection hM with hM
                subst hM
                try simp only [Exit.then, Exit.inBlock, ↓reduceIte, Nat.reduceEqDiff]
                refine ret_ok hS Tryd.results5 (res_tmp hS rfl res_nil) ?_
                exact rfl
              · replace hM := cf hb1667 hM
                refine dyg (l := []) 6 (v := .agg #[.int .i64 e1595.Kind, .string e1595.Text]) rfl (by kernel_rfl) (by kernel_rfl) (by kernel_rfl) (by kernel_rfl) hQ hS (y_load hS rfl ty28 0 rfl eo_nil (us := [.int .i64 e1595.Kind, .string e1595.Text]) rfl rfl (fun h => by cases h)) rfl rfl rfl hb1667 rfl rfl fun a hS => ?_
                refine dyg (l := []) 8 (v := .agg #[.int .i64 e1595.Kind, .string e1595.Text]) rfl (by kernel_rfl) (by kernel_rfl) (by kernel_rfl) (by kernel_rfl) hQ hS (y_load hS rfl ty28 0 rfl eo_nil (us := [.int .i64 e1595.Kind, .string e1595.Text]) rfl rfl (fun h => by cases h)) rfl rfl rfl hb1667 rfl rfl fun a hS => ?_
                obtain ⟨u1668, hu1668, hM⟩ := bd hM
                refine wpE_oneg (i := 7) rfl (by kernel_rfl) hS rfl rfl rfl hb1667 (k_call hS ci23 rfl rfl (key_Number_c _ _ hS.dlt (hS.get 2 rfl) e1595 _ hu1668) fun _ w hR a hk hA => ⟨stN (hk), ?_⟩)
                have he := Eq.symm hR
                subst he
                have hS := hA [] (fun r hr => by cases hr) List.Pairwise.nil
                obtain ⟨u1670, hu1670, hM⟩ := bd hM
                refine wpE_oneg (i := 9) rfl (by kernel_rfl) hS rfl rfl rfl hb1667 (k_call hS ci24 rfl rfl (ref23_Number_c _ _ hS.dlt e1595 _ hu1670) fun _ w hR a hk hA => ⟨stN (hk), ?_⟩)
                have he := Eq.symm hR
                subst he
                have hS := hA [] (fun r hr => by cases hr) List.Pairwise.nil
                refine dyg 10 (v := .bool ((u1668 : Int) != u1670)) rfl (by kernel_rfl) (by kernel_rfl) (by kernel_rfl) rfl hQ hS (y_int hS rfl rfl rfl) rfl rfl rfl hb1667 rfl rfl fun a hS => ?_
                refine dy 11 (v := .bool ((u1668 : Int) != u1670)) rfl (by kernel_rfl) (by kernel_rfl) (by kernel_rfl) rfl hQ hS (y_pickf hS rfl hb1667 rfl) rfl rfl rfl fun a hS => ?_
                refine dy 12 (v := .bool ((u1668 : Int) != u1670)) rfl (by kernel_rfl) (by kernel_rfl) (by kernel_rfl) rfl hQ hS (y_move hS rfl) rfl rfl rfl fun a hS => ?_
                rcases bool2 ((u1668 : Int) != u1670) with hb1672 | hb1672
                · replace hM := ct hb1672 hM
                  refine dyn 13 rfl (by kernel_rfl) (by kernel_rfl) (by kernel_rfl) hQ hS rfl rfl rfl hb1672 rfl rfl fun a hS => ?_
                  refine dyn 14 rfl (by kernel_rfl) (by kernel_rfl) (by kernel_rfl) hQ hS rfl rfl rfl hb1672 rfl rfl fun a hS => ?_
                  refine dyn 15 rfl (by kernel_rfl) (by kernel_rfl) (by kernel_rfl) hQ hS rfl rfl rfl hb1672 rfl rfl fun a hS => ?_
                  refine dyn 16 rfl (by kernel_rfl) (by kernel_rfl) (by kernel_rfl) hQ hS rfl rfl rfl hb1672 rfl rfl fun a hS => ?_
                  refine dyn 17 rfl (by kernel_rfl) (by kernel_rfl) (by kernel_rfl) hQ hS rfl rfl rfl hb1672 rfl rfl fun a hS => ?_
                  refine dy 18 (v := .bool true) rfl (by kernel_rfl) (by kernel_rfl) (by kernel_rfl) rfl hQ hS (y_pickt hS rfl hb1672 rfl) rfl rfl rfl fun a hS => ?_
                  refine dy 19 (v := .bool true) rfl (by kernel_rfl) (by kernel_rfl) (by kernel_rfl) rfl hQ hS (y_move hS rfl) rfl rfl rfl fun a hS => ?_
                  refine dyn 20 rfl (by kernel_rfl) (by kernel_rfl) (by kernel_rfl) hQ hS rfl rfl rfl rfl rfl rfl fun a hS => ?_
                  refine dyn 21 rfl (by kernel_rfl) (by kernel_rfl) (by kernel_rfl) hQ hS rfl rfl rfl rfl rfl rfl fun a hS => ?_
                  refine dyn 22 rfl (by kernel_rfl) (by kernel_rfl) (by kernel_rfl) hQ hS rfl rfl rfl rfl rfl rfl fun a hS => ?_
                  refine dyn 23 rfl (by kernel_rfl) (by kernel_rfl) (by kernel_rfl) hQ hS rfl rfl rfl rfl rfl rfl fun a hS => ?_
                  refine dyn 24 rfl (by kernel_rfl) (by kernel_rfl) (by kernel_rfl) hQ hS rfl rfl rfl rfl rfl rfl fun a hS => ?_
                  refine dy 25 (v := .bool true) rfl (by kernel_rfl) (by kernel_rfl) (by kernel_rfl) rfl hQ hS (y_pickt hS rfl rfl rfl) rfl rfl rfl fun a hS => ?_
                  refine wpE_done (by kernel_rfl) ?_ _
                  try simp only [Exit.then, Exit.inBlock, ↓reduceIte, Nat.reduceEqDiff]
                  refine hK158 _ _ ?_
                  refine c_t hS rfl rfl ?_
                  refine wp_seq_k fun K160 hK160 => ?_
                  refine r_list ?_
                  refine wl rfl (ky (v := .bool false) hS (y_assign hS rfl) rfl rfl fun a hS => ?_)
                  refine wpList_nil ?_
                  try simp only [Exit.then, Exit.inBlock, ↓reduceIte, Nat.reduceEqDiff]
                  refine hK160 _ _ ?_
                  refine wp_ret ?_
                  injection hM with hM
                  subst hM
                  have hr := hf1 _ rfl
                  subst hr
                  replace hMo1 := el_out hMo1
                  have hM := hMo1
                  injection hM with hM
                  subst hM
                  try simp only [Exit.then, Exit.inBlock, ↓reduceIte, Nat.reduceEqDiff]
                  refine ret_ok hS Tryd.results5 (res_tmp hS rfl res_nil) ?_
                  exact rfl
                · replace hM := cf hb1672 hM
                  refine dyg (l := []) 13 (v := .agg #[.int .i64 e1595.Kind, .string e1595.Text]) rfl (by kernel_rfl) (by kernel_rfl) (by kernel_rfl) (by kernel_rfl) hQ hS (y_load hS rfl ty28 0 rfl eo_nil (us := [.int .i64 e1595.Kind, .string e1595.Text]) rfl rfl (fun h => by cases h)) rfl rfl rfl hb1672 rfl rfl fun a hS => ?_
                  refine dyg (l := []) 15 (v := .agg #[.int .i64 e1595.Kind, .string e1595.Text]) rfl (by kernel_rfl) (by kernel_rfl) (by kernel_rfl) (by kernel_rfl) hQ hS (y_load hS rfl ty28 0 rfl eo_nil (us := [.int .i64 e1595.Kind, .string e1595.Text]) rfl rfl (fun h => by cases h)) rfl rfl rfl hb1672 rfl rfl fun a hS => ?_
                  obtain ⟨u1673, hu1673, hM⟩ := bd hM
                  refine wpE_oneg (i := 14) rfl (by kernel_rfl) hS rfl rfl rfl hb1672 (k_call hS ci25 rfl rfl (key_Input_c _ _ hS.dlt e1595 _ hu1673) fun _ w hR a hk hA => ⟨stN (hk), ?_⟩)
                  have he := Eq.symm hR
                  subst he
                  have hS := hA [] (fun r hr => by cases hr) List.Pairwise.nil
                  obtain ⟨u1675, hu1675, hM⟩ := bd hM
                  refine wpE_oneg (i := 16) rfl (by kernel_rfl) hS rfl rfl rfl hb1672 (k_call hS ci26 rfl rfl (ref23_Input_c _ _ hS.dlt e1595 _ hu1675) fun _ w hR a hk hA => ⟨stN (hk), ?_⟩)
                  have he := Eq.symm hR
                  subst he
                  have hS := hA [] (fun r hr => by cases hr) List.Pairwise.nil
                  refine dyg 17 (v := .bool (u1673 != u1675)) rfl (by kernel_rfl) (by kernel_rfl) (by kernel_rfl) rfl hQ hS (y_bool hS rfl rfl Tryd.underlying4 (.inr ⟨rfl, rfl⟩)) rfl rfl rfl hb1672 rfl rfl fun a hS => ?_
                  refine dy 18 (v := .bool (u1673 != u1675)) rfl (by kernel_rfl) (by kernel_rfl) (by kernel_rfl) rfl hQ hS (y_pickf hS rfl hb1672 rfl) rfl rfl rfl fun a hS => ?_
                  refine dy 19 (v := .bool (u1673 != u1675)) rfl (by kernel_rfl) (by kernel_rfl) (by kernel_rfl) rfl hQ hS (y_move hS rfl) rfl rfl rfl fun a hS => ?_
                  rcases bool2 (u1673 != u1675) with hb1677 | hb1677
                  · replace hM := ct hb1677 hM
                    refine dyn 20 rfl (by kernel_rfl) (by kernel_rfl) (by kernel_rfl) hQ hS rfl rfl rfl hb1677 rfl rfl fun a hS => ?_
                    refine dyn 21 rfl (by kernel_rfl) (by kernel_rfl) (by kernel_rfl) hQ hS rfl rfl rfl hb1677 rfl rfl fun a hS => ?_
                    refine dyn 22 rfl (by kernel_rfl) (by kernel_rfl) (by kernel_rfl) hQ hS rfl rfl rfl hb1677 rfl rfl fun a hS => ?_
                    refine dyn 23 rfl (by kernel_rfl) (by kernel_rfl) (by kernel_rfl) hQ hS rfl rfl rfl hb1677 rfl rfl fun a hS => ?_
                    refine dyn 24 rfl (by kernel_rfl) (by kernel_rfl) (by kernel_rfl) hQ hS rfl rfl rfl hb1677 rfl rfl fun a hS => ?_
                    refine dy 25 (v := .bool true) rfl (by kernel_rfl) (by kernel_rfl) (by kernel_rfl) rfl hQ hS (y_pickt hS rfl hb1677 rfl) rfl rfl rfl fun a hS => ?_
                    refine wpE_done (by kernel_rfl) ?_ _
                    try simp only [Exit.then, Exit.inBlock, ↓reduceIte, Nat.reduceEqDiff]
                    refine hK158 _ _ ?_
                    refine c_t hS rfl rfl ?_
                    refine wp_seq_k fun K161 hK161 => ?_
                    refine r_list ?_
                    refine wl rfl (ky (v := .bool false) hS (y_assign hS rfl) rfl rfl fun a hS => ?_)
                    refine wpList_nil ?_
                    try simp only [Exit.then, Exit.inBlock, ↓reduceIte, Nat.reduceEqDiff]
                    refine hK161 _ _ ?_
                    refine wp_ret ?_
                    injection hM with hM
                    subst hM
                    have hr := hf1 _ rfl
                    subst hr
                    replace hMo1 := el_out hMo1
                    have hM := hMo1
                    injection hM with hM
                    subst hM
                    try simp only [Exit.then, Exit.inBlock, ↓reduceIte, Nat.reduceEqDiff]
                    refine ret_ok hS Tryd.results5 (res_tmp hS rfl res_nil) ?_
                    exact rfl
                  · replace hM := cf hb1677 hM
                    refine dyg (l := []) 20 (v := .agg #[.int .i64 e1595.Kind, .string e1595.Text]) rfl (by kernel_rfl) (by kernel_rfl) (by kernel_rfl) (by kernel_rfl) hQ hS (y_load hS rfl ty28 0 rfl eo_nil (us := [.int .i64 e1595.Kind, .string e1595.Text]) rfl rfl (fun h => by cases h)) rfl rfl rfl hb1677 rfl rfl fun a hS => ?_
                    refine dyg (l := []) 22 (v := .agg #[.int .i64 e1595.Kind, .string e1595.Text]) rfl (by kernel_rfl) (by kernel_rfl) (by kernel_rfl) (by kernel_rfl) hQ hS (y_load hS rfl ty28 0 rfl eo_nil (us := [.int .i64 e1595.Kind, .string e1595.Text]) rfl rfl (fun h => by cases h)) rfl rfl rfl hb1677 rfl rfl fun a hS => ?_
                    obtain ⟨u1678, hu1678, hM⟩ := bd hM
                    refine wpE_oneg (i := 21) rfl (by kernel_rfl) hS rfl rfl rfl hb1677 (k_call hS ci27 rfl rfl (key_Cyclic_c _ _ hS.dlt e1595 _ hu1678) fun _ w hR a hk hA => ⟨stN (hk), ?_⟩)
                    have he := Eq.symm hR
                    subst he
                    have hS := hA [] (fun r hr => by cases hr) List.Pairwise.nil
                    obtain ⟨u1680, hu1680, hM⟩ := bd hM
                    refine wpE_oneg (i := 23) rfl (by kernel_rfl) hS rfl rfl rfl hb1677 (k_call hS ci28 rfl rfl (ref23_Cyclic_c _ _ hS.dlt e1595 _ hu1680) fun _ w hR a hk hA => ⟨stN (hk), ?_⟩)
                    have he := Eq.symm hR
                    subst he
                    have hS := hA [] (fun r hr => by cases hr) List.Pairwise.nil
                    refine dyg 24 (v := .bool (u1678 != u1680)) rfl (by kernel_rfl) (by kernel_rfl) (by kernel_rfl) rfl hQ hS (y_bool hS rfl rfl Tryd.underlying4 (.inr ⟨rfl, rfl⟩)) rfl rfl rfl hb1677 rfl rfl fun a hS => ?_
                    refine dy 25 (v := .bool (u1678 != u1680)) rfl (by kernel_rfl) (by kernel_rfl) (by kernel_rfl) rfl hQ hS (y_pickf hS rfl hb1677 rfl) rfl rfl rfl fun a hS => ?_
                    refine wpE_done (by kernel_rfl) ?_ _
                    try simp only [Exit.then, Exit.inBlock, ↓reduceIte, Nat.reduceEqDiff]
                    refine hK158 _ _ ?_
                    rcases bool2 (u1678 != u1680) with hb1682 | hb1682
                    · replace hM := ct hb1682 hM
                      refine c_t hS rfl hb1682 ?_
                      refine wp_seq_k fun K162 hK162 => ?_
                      refine r_list ?_
                      refine wl rfl (ky (v := .bool false) hS (y_assign hS rfl) rfl rfl fun a hS => ?_)
                      refine wpList_nil ?_
                      try simp only [Exit.then, Exit.inBlock, ↓reduceIte, Nat.reduceEqDiff]
                      refine hK162 _ _ ?_
                      refine wp_ret ?_
                      injection hM with hM
                      subst hM
                      have hr := hf1 _ rfl
                      subst hr
                      replace hMo1 := el_out hMo1
                      have hM := hMo1
                      injection hM with hM
                      subst hM
                      try simp only [Exit.then, Exit.inBlock, ↓reduceIte, Nat.reduceEqDiff]
                      refine ret_ok hS Tryd.results5 (res_tmp hS rfl res_nil) ?_
                      exact rfl
                    · replace hM := cf hb1682 hM
                      refine c_f hS rfl hb1682 ?_
                      refine wp_skip ?_
                      try simp only [Exit.then, Exit.inBlock, ↓reduceIte, Nat.reduceEqDiff]
                      refine hK156 _ _ ?_
                      refine r_list ?_
                      refine wl rfl (ky (v := .int .i64 (IntKind.i64.wrap (g1503 + 1))) hS (y_int hS rfl rfl rfl) rfl rfl fun a hS => ?_)
                      refine wl rfl (ky (v := .int .i64 (IntKind.i64.wrap (g1503 + 1))) hS (y_move hS rfl) rfl rfl fun a hS => ?_)
                      refine wpList_nil ?_
                      try simp only [Exit.then, Exit.inBlock, ↓reduceIte, Nat.reduceEqDiff]
                      exact ⟨IntKind.i64.wrap (g1503 + 1), (Option.some.inj hM).symm, (IntKind.i64.wrap (g1503 + 1)), rfl, (hS.meet [1] (by decide) ⟨rfl, rfl, rfl, rfl, rfl, trivial⟩ ⟨rfl, trivial⟩ ⟨⟨0, rfl⟩, ⟨1, rfl⟩, ⟨2, rfl⟩, trivial⟩)⟩
            · replace hM := cf hb1594 hM
              refine c_f hS rfl hb1594 ?_
              refine wp_exit ?_
              try simp only [Exit.then, Exit.inBlock, ↓reduceIte, Nat.reduceEqDiff]
              injection hM with hM
              subst hM
              have hr := hf1 _ rfl
              subst hr
              replace hMo1 := el_go hMo1
              have hM : law23_KeyKinds_j3 n_2 rules_ = some y := hMo1
              exact ⟨(hS.meet [] (by decide) ⟨rfl, rfl, trivial⟩ trivial ⟨⟨0, rfl⟩, ⟨2, rfl⟩, trivial⟩), hM⟩
        · rintro a w ⟨hS, hM⟩
          unfold law23_KeyKinds_j3 at hM
          refine seq_j (J := fun a w => St W0 No T 119 [] [] [LvF] a w ∧ law23_KeyKinds_j1 = some y) ?_ ?_
          · skip
            refine wp_seq_k fun K114 hK114 => ?_
            refine r_list ?_
            refine wl rfl (ky (v := .int .i64 n_2) hS (y_move hS rfl) rfl rfl fun a hS => ?_)
            refine wl rfl (ky (v := .int .i64 n_2) hS (y_move hS rfl) rfl rfl fun a hS => ?_)
            obtain ⟨u1215, hu1215, hM⟩ := bd hM
            refine wl rfl (k_call hS ci18 rfl rfl (mill_Mod_c _ _ hS.dlt n_2 103 _ hu1215) fun _ w hR a hk hA => ?_)
            have he := Eq.symm hR
            subst he
            have hS := hA [] (fun r hr => by cases hr) List.Pairwise.nil
            refine wl rfl (ky (v := .int .i64 (IntKind.i64.wrap (u1215 - 1))) hS (y_int hS rfl rfl rfl) rfl rfl fun a hS => ?_)
            refine wl rfl (ky (v := .int .i64 n_2) hS (y_move hS rfl) rfl rfl fun a hS => ?_)
            refine wl rfl (ky (v := v1) hS (y_move hS rfl) rfl rfl fun a hS => ?_)
            refine wl rfl (ky (v := .int .i64 (rules_.length : Int)) hS (y_len (R := R_RuleD) (xs := rules_) hS sl38 rfl 0 rfl) rfl rfl fun a hS => ?_)
            refine wl rfl (ky (v := .int .i64 (IntKind.i64.wrap ((rules_.length : Int) + 1))) hS (y_int hS rfl rfl rfl) rfl rfl fun a hS => ?_)
            obtain ⟨u1217, hu1217, hM⟩ := bd hM
            refine wl rfl (k_call hS ci18 rfl rfl (mill_Mod_c _ _ hS.dlt n_2 (IntKind.i64.wrap ((rules_.length : Int) + 1)) _ hu1217) fun _ w hR a hk hA => ?_)
            have he := Eq.symm hR
            subst he
            have hS := hA [] (fun r hr => by cases hr) List.Pairwise.nil
            refine wl rfl (k_bslice (ps := [(0, .tmp 88), (1, .tmp 91), (2, .tmp 96)]) hS el23 ze3 (zl := [.int .i64 0, .int .i64 0, .int .i64 0]) (by kernel_rfl) rfl (us := [[.int .i64 n_2], [.int .i64 (IntKind.i64.wrap (u1215 - 1))], [.int .i64 u1217]]) ⟨rfl, ⟨rfl, ⟨rfl, trivial⟩⟩⟩ (ws := [.int .i64 n_2, .int .i64 (IntKind.i64.wrap (u1215 - 1)), .int .i64 u1217]) rfl rfl rfl rfl fun b1219 a w hk hS => ?_)
            replace hS := hS.lit (R := (Rep.int .i64)) (us := [.int .i64 n_2, .int .i64 (IntKind.i64.wrap (u1215 - 1)), .int .i64 u1217]) (xs := [n_2, IntKind.i64.wrap (u1215 - 1), u1217]) 0 rfl (by decide) ((RowsOk.one_ (R := (Rep.int .i64)) (x := n_2) rfl).append ((RowsOk.one_ (R := (Rep.int .i64)) (x := IntKind.i64.wrap (u1215 - 1)) rfl).append (RowsOk.one_ (R := (Rep.int .i64)) (x := u1217) rfl))) rfl rfl
            refine wl rfl (ky (v := .int .i64 (([n_2, IntKind.i64.wrap (u1215 - 1), u1217]).length : Int)) hS (y_leno (R := (Rep.int .i64)) (xs := [n_2, IntKind.i64.wrap (u1215 - 1), u1217]) hS sl23 rfl 0 rfl 0 rfl) rfl rfl fun a hS => ?_)
            refine wl rfl (ky (v := .int .i64 0) hS (y_move hS rfl) rfl rfl fun a hS => ?_)
            refine wpList_nil ?_
            try simp only [Exit.then, Exit.inBlock, ↓reduceIte, Nat.reduceEqDiff]
            refine hK114 _ _ ?_
            refine wp_block ?_
            obtain ⟨r1, hl1, hMo1⟩ := bd hM
            refine wp_lp (fun s : (List Int) × Int => law23_KeyKinds_l2 n_2 rules_ u1215 u1217 s.1 s.2) (fun s a w => ∃ (g1258 : (List Int)) (g1262 : Int) (v1259 : Value) (cl1260 : (List Value)), (g1258, g1262) = s ∧ St W0 No T 119 [(3, v1), (97, v1259), (98, .int .i64 (([n_2, IntKind.i64.wrap (u1215 - 1), u1217]).length : Int)), (99, .int .i64 g1262)] [.own v1259 3 (Rep.int .i64).size cl1260] [SlF R_RuleD v1 rules_, RowsF (Rep.int .i64) cl1260 g1258, LvF] a w) hl1 ⟨([n_2, IntKind.i64.wrap (u1215 - 1), u1217]), 0, (.slice (some ⟨b1219, 0, none⟩) 3 3), ([.int .i64 n_2, .int .i64 (IntKind.i64.wrap (u1215 - 1)), .int .i64 u1217]), rfl, (hS.meet [0] (by decide) ⟨rfl, rfl, rfl, rfl, trivial⟩ ⟨rfl, trivial⟩ ⟨⟨1, rfl⟩, ⟨0, rfl⟩, ⟨2, rfl⟩, trivial⟩)⟩ ?_
            rintro s a w f1 ⟨g1258, g1262, v1259, cl1260, rfl, hS⟩ hM hf1
            have hM : law23_KeyKinds_l2 n_2 rules_ u1215 u1217 g1258 g1262 = some f1 := hM
            unfold law23_KeyKinds_l2 at hM
            refine wp_seq_k fun K129 hK129 => ?_
            refine r_list ?_
            refine wl rfl (ky (v := .bool (decide ((g1262 : Int) < (([n_2, IntKind.i64.wrap (u1215 - 1), u1217]).length : Int)))) hS (y_int hS rfl rfl rfl) rfl rfl fun a hS => ?_)
            refine wpList_nil ?_
            try simp only [Exit.then, Exit.inBlock, ↓reduceIte, Nat.reduceEqDiff]
            refine hK129 _ _ ?_
            refine wp_seq_k fun K130 hK130 => ?_
            rcases bool2 (decide ((g1262 : Int) < (([n_2, IntKind.i64.wrap (u1215 - 1), u1217]).length : Int))) with hb1296 | hb1296
            · replace hM := ct hb1296 hM
              refine c_t hS rfl hb1296 ?_
              refine wp_skip ?_
              try simp only [Exit.then, Exit.inBlock, ↓reduceIte, Nat.reduceEqDiff]
              refine hK130 _ _ ?_
              refine wp_seq_k fun K131 hK131 => ?_
              refine wp_block ?_
              refine wp_seq_k fun K132 hK132 => ?_
              refine r_list ?_
              obtain ⟨e1297, he1297, hM⟩ := bd hM
              refine wl rfl (k_indexo (R := (Rep.int .i64)) hS sl23 ty3 rfl rfl 0 rfl 1 rfl he1297 rfl fun b1298 o1299 p1304 cs1301 hr1300 hO1302 hC1303 a hS => ?_)
              obtain rfl := hr1300
              refine wl rfl (ky (v := .int .i64 e1297) hS (y_loado (k := 0) hS ty3 0 rfl hO1302 hC1303 rfl id (us := [.int .i64 e1297]) rfl rfl (fun _ => rfl)) rfl rfl fun a hS => ?_)
              refine wl rfl (ky (v := .int .i64 e1297) hS (y_assign hS rfl) rfl rfl fun a hS => ?_)
              refine wpList_nil ?_
              try simp only [Exit.then, Exit.inBlock, ↓reduceIte, Nat.reduceEqDiff]
              refine hK132 _ _ ?_
              refine wp_seq_k fun K133 hK133 => ?_
              refine r_list ?_
              refine wl rfl (ky (v := .int .i64 e1297) hS (y_move hS rfl) rfl rfl fun a hS => ?_)
              obtain ⟨u1314, hu1314, hM⟩ := bd hM
              refine wl rfl (k_call hS ci29 rfl rfl (key_Cell_c _ _ hS.dlt (hS.get 2 rfl) e1297 _ hu1314) fun _ w hR a hk hA => ?_)
              have he := Eq.symm hR
              subst he
              have hS := hA [] (fun r hr => by cases hr) List.Pairwise.nil
              refine wl rfl (ky (v := .int .i64 e1297) hS (y_move hS rfl) rfl rfl fun a hS => ?_)
              obtain ⟨u1316, hu1316, hM⟩ := bd hM
              refine wl rfl (k_call hS ci30 rfl rfl (ref23_Cell_c _ _ hS.dlt (hS.get 2 rfl) e1297 _ hu1316) fun _ w hR a hk hA => ?_)
              have he := Eq.symm hR
              subst he
              have hS := hA [] (fun r hr => by cases hr) List.Pairwise.nil
              refine wl rfl (ky (v := .bool (!((u1314.Kind : Int) == u1316.Kind && u1314.Text.toList == u1316.Text.toList))) hS (eq28n hS rfl rfl) rfl rfl fun a hS => ?_)
              refine wl rfl (ky (v := .bool (!((u1314.Kind : Int) == u1316.Kind && u1314.Text.toList == u1316.Text.toList))) hS (y_move hS rfl) rfl rfl fun a hS => ?_)
              rcases bool2 (!((u1314.Kind : Int) == u1316.Kind && u1314.Text.toList == u1316.Text.toList)) with hb1318 | hb1318
              · replace hM := ct hb1318 hM
                refine wn hS rfl rfl rfl hb1318 rfl rfl fun a hS => ?_
                refine wn hS rfl rfl rfl hb1318 rfl rfl fun a hS => ?_
                refine wn hS rfl rfl rfl hb1318 rfl rfl fun a hS => ?_
                refine wn hS rfl rfl rfl hb1318 rfl rfl fun a hS => ?_
                refine wn hS rfl rfl rfl hb1318 rfl rfl fun a hS => ?_
                refine wn hS rfl rfl rfl hb1318 rfl rfl fun a hS => ?_
                refine wn hS rfl rfl rfl hb1318 rfl rfl fun a hS => ?_
                refine wl rfl (ky (v := .bool true) hS (y_pickt hS rfl hb1318 rfl) rfl rfl fun a hS => ?_)
                refine wpList_nil ?_
                try simp only [Exit.then, Exit.inBlock, ↓reduceIte, Nat.reduceEqDiff]
                refine hK133 _ _ ?_
                refine c_t hS rfl rfl ?_
                refine wp_seq_k fun K134 hK134 => ?_
                refine r_list ?_
                refine wl rfl (ky (v := .bool false) hS (y_assign hS rfl) rfl rfl fun a hS => ?_)
                refine wpList_nil ?_
                try simp only [Exit.then, Exit.inBlock, ↓reduceIte, Nat.reduceEqDiff]
                refine hK134 _ _ ?_
                refine wp_ret ?_
                injection hM with hM
                subst hM
                have hr := hf1 _ rfl
                subst hr
                replace hMo1 := el_out hMo1
                have hM := hMo1
                injection hM with hM
                subst hM
                try simp only [Exit.then, Exit.inBlock, ↓reduceIte, Nat.reduceEqDiff]
                refine ret_ok hS Tryd.results5 (res_tmp hS rfl res_nil) ?_
                exact rfl
              · replace hM := cf hb1318 hM
                refine wg hS rfl rfl rfl hb1318 (ky (v := v1) hS (y_move hS rfl) rfl rfl fun a hS => ?_)
                refine wg hS rfl rfl rfl hb1318 (ky (v := .int .i64 e1297) hS (y_move hS rfl) rfl rfl fun a hS => ?_)
                obtain ⟨u1319, hu1319, hM⟩ := bd hM
                refine wg hS rfl rfl rfl hb1318 (k_call hS ci31 rfl rfl (key_Of_c _ _ hS.dlt (hS.get 2 rfl) rules_ e1297 _ (hS.get 0 rfl) _ hu1319) fun _ w hR a hk hA => ?_)
                have he := Eq.symm hR
                subst he
                have hS := hA [] (fun r hr => by cases hr) List.Pairwise.nil
                refine wg hS rfl rfl rfl hb1318 (ky (v := v1) hS (y_move hS rfl) rfl rfl fun a hS => ?_)
                refine wg hS rfl rfl rfl hb1318 (ky (v := .int .i64 e1297) hS (y_move hS rfl) rfl rfl fun a hS => ?_)
                obtain ⟨u1321, hu1321, hM⟩ := bd hM
                refine wg hS rfl rfl rfl hb1318 (k_call hS ci32 rfl rfl (ref23_Of_c _ _ hS.dlt (hS.get 2 rfl) rules_ e1297 _ (hS.get 0 rfl) _ hu1321) fun _ w hR a hk hA => ?_)
                have he := Eq.symm hR
                subst he
                have hS := hA [] (fun r hr => by cases hr) List.Pairwise.nil
                refine wg hS rfl rfl rfl hb1318 (ky (v := .bool (!((u1319.Kind : Int) == u1321.Kind && u1319.Text.toList == u1321.Text.toList))) hS (eq28n hS rfl rfl) rfl rfl fun a hS => ?_)
                refine wl rfl (ky (v := .bool (!((u1319.Kind : Int) == u1321.Kind && u1319.Text.toList == u1321.Text.toList))) hS (y_pickf hS rfl hb1318 rfl) rfl rfl fun a hS => ?_)
                refine wpList_nil ?_
                try simp only [Exit.then, Exit.inBlock, ↓reduceIte, Nat.reduceEqDiff]
                refine hK133 _ _ ?_
                rcases bool2 (!((u1319.Kind : Int) == u1321.Kind && u1319.Text.toList == u1321.Text.toList)) with hb1323 | hb1323
                · replace hM := ct hb1323 hM
                  refine c_t hS rfl hb1323 ?_
                  refine wp_seq_k fun K135 hK135 => ?_
                  refine r_list ?_
                  refine wl rfl (ky (v := .bool false) hS (y_assign hS rfl) rfl rfl fun a hS => ?_)
                  refine wpList_nil ?_
                  try simp only [Exit.then, Exit.inBlock, ↓reduceIte, Nat.reduceEqDiff]
                  refine hK135 _ _ ?_
                  refine wp_ret ?_
                  injection hM with hM
                  subst hM
                  have hr := hf1 _ rfl
                  subst hr
                  replace hMo1 := el_out hMo1
                  have hM := hMo1
                  injection hM with hM
                  subst hM
                  try simp only [Exit.then, Exit.inBlock, ↓reduceIte, Nat.reduceEqDiff]
                  refine ret_ok hS Tryd.results5 (res_tmp hS rfl res_nil) ?_
                  exact rfl
                · replace hM := cf hb1323 hM
                  refine c_f hS rfl hb1323 ?_
                  refine wp_skip ?_
                  try simp only [Exit.then, Exit.inBlock, ↓reduceIte, Nat.reduceEqDiff]
                  refine hK131 _ _ ?_
                  refine r_list ?_
                  refine wl rfl (ky (v := .int .i64 (IntKind.i64.wrap (g1262 + 1))) hS (y_int hS rfl rfl rfl) rfl rfl fun a hS => ?_)
                  refine wl rfl (ky (v := .int .i64 (IntKind.i64.wrap (g1262 + 1))) hS (y_move hS rfl) rfl rfl fun a hS => ?_)
                  refine wpList_nil ?_
                  try simp only [Exit.then, Exit.inBlock, ↓reduceIte, Nat.reduceEqDiff]
                  exact ⟨(g1258, IntKind.i64.wrap (g1262 + 1)), (Option.some.inj hM).symm, g1258, (IntKind.i64.wrap (g1262 + 1)), v1259, cl1260, rfl, (hS.meet [0] (by decide) ⟨rfl, rfl, rfl, rfl, trivial⟩ ⟨rfl, trivial⟩ ⟨⟨0, rfl⟩, ⟨1, rfl⟩, ⟨2, rfl⟩, trivial⟩)⟩
            · replace hM := cf hb1296 hM
              refine c_f hS rfl hb1296 ?_
              refine wp_exit ?_
              try simp only [Exit.then, Exit.inBlock, ↓reduceIte, Nat.reduceEqDiff]
              injection hM with hM
              subst hM
              have hr := hf1 _ rfl
              subst hr
              replace hMo1 := el_go hMo1
              have hM : law23_KeyKinds_j1 = some y := hMo1
              exact ⟨(hS.meet [] (by decide) trivial trivial ⟨⟨2, rfl⟩, trivial⟩), hM⟩
          · rintro a w ⟨hS, hM⟩
            unfold law23_KeyKinds_j1 at hM
            refine wp_seq_k fun K113 hK113 => ?_
            refine r_list ?_
            obtain ⟨u1213, hu1213, hM⟩ := bd hM
            refine wl rfl (k_call hS ci14 rfl rfl (law23_awake_c _ _ hS.dlt (hS.get 0 rfl) _ hu1213) fun _ w hR a hk hA => ?_)
            have he := Eq.symm hR
            subst he
            have hS := hA [] (fun r hr => by cases hr) List.Pairwise.nil
            refine wl rfl (ky (v := .bool u1213) hS (y_assign hS rfl) rfl rfl fun a hS => ?_)
            refine wpList_nil ?_
            try simp only [Exit.then, Exit.inBlock, ↓reduceIte, Nat.reduceEqDiff]
            refine hK113 _ _ ?_
            refine wp_ret ?_
            injection hM with hM
            subst hM
            try simp only [Exit.then, Exit.inBlock, ↓reduceIte, Nat.reduceEqDiff]
            refine ret_ok hS Tryd.results5 (res_tmp hS rfl res_nil) ?_
            exact rfl
end Go.Proofs.YtpobppjicoikoaaDoor
