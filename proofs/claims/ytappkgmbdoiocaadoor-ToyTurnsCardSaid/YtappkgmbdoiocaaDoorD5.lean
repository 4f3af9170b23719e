/- What functions of the program compute; that they do. -/
import Derived.Test.YtappkgmbdoiocaaDoorTD5
set_option linter.unusedVariables false
set_option linter.unusedSimpArgs false
namespace Go.Proofs.YtappkgmbdoiocaaDoor
open Go.RowKit
noncomputable def law24_ToyAsks_j1 : Option Bool := (law24_awake).bind fun u1618 => some (u1618)
noncomputable def law24_ToyAsks_j2 (g1876 : Int) (g2261 : (List Int)) (g2263 : Int) : Option (Fl (Int × (List Int) × Int) (Fl (Unit) Bool)) := some (.go (IntKind.i64.wrap (g1876 + 1), g2261, g2263))
noncomputable def law24_ToyAsks_j3 (answers2333 : (List ByteArray)) (g2337 : (List Int)) (g2339 : Int) (g2405 : Bool) : Option (Fl ((List ByteArray) × (List Int) × Int) (Fl ((List Int) × Int) Bool)) := cond g2405 (some (.out (.out false))) ((dice_Word (DiceD.mk g2337 g2339) ([(ByteArray.mk #[48]), (ByteArray.mk #[49]), (ByteArray.mk #[50])])).bind fun u2409 => gd (roomB (answers2333.length + ([u2409.1]).length)) <| some (.go ((answers2333 ++ ([u2409.1])), u2409.2.L, u2409.2.At)))
noncomputable def law24_ToyAsks_l4 (u1099 : ((List RuleD) × DiceD)) (g1876 : Int) (e2264 : RuleD) (u2276 : (Int × Int)) (answers2333 : (List ByteArray)) (g2337 : (List Int)) (g2339 : Int) : Option (Fl ((List ByteArray) × (List Int) × Int) (Fl ((List Int) × Int) Bool)) := (ref23_Of u1099.1 g1876).bind fun u2385 => (toy_Turn u1099.1 u2385 answers2333).bind fun u2387 => cond u2387.Done (some (.out (.go (g2337, g2339)))) ((ref23_Number u2387.Ask).bind fun u2393 => cond (decide ((6 : Int) < (answers2333.length : Int))) (law24_ToyAsks_j3 answers2333 g2337 g2339 true) (cond (decide ((u2393 : Int) < 0)) (law24_ToyAsks_j3 answers2333 g2337 g2339 true) (cond ((u2387.Ask.Kind : Int) != 30) (cond (decide ((u2276.2 : Int) ≤ u2393)) (law24_ToyAsks_j3 answers2333 g2337 g2339 true) (cond (decide ((u2276.1 : Int) ≤ u2393)) (law24_ToyAsks_j3 answers2333 g2337 g2339 (!(e2264.Ring))) (law24_ToyAsks_j3 answers2333 g2337 g2339 false))) (law24_ToyAsks_j3 answers2333 g2337 g2339 false))))
noncomputable def law24_ToyAsks_j5 (u1099 : ((List RuleD) × DiceD)) (g1876 : Int) (g1877 : (List Int)) (g1879 : Int) (e2264 : RuleD) (u2276 : (Int × Int)) (g2286 : Bool) : Option (Fl (Int × (List Int) × Int) (Fl (Unit) Bool)) := cond g2286 (some (.out (.out false))) ((loop (fun s : (List ByteArray) × (List Int) × Int => law24_ToyAsks_l4 u1099 g1876 e2264 u2276 s.1 s.2.1 s.2.2) (([] : List ByteArray), g1877, g1879)).bind fun r => Fl.el r (fun s => law24_ToyAsks_j2 g1876 s.1 s.2) (fun y => some (.out (.out y))))
noncomputable def law24_ToyAsks_l6 (u1099 : ((List RuleD) × DiceD)) (g1876 : Int) (g1877 : (List Int)) (g1879 : Int) : Option (Fl (Int × (List Int) × Int) (Fl (Unit) Bool)) := cond (decide ((g1876 : Int) < (u1099.1.length : Int))) ((getI u1099.1 g1876).bind fun e2264 => (toy_Block u1099.1 g1876).bind fun u2276 => cond (decide ((g1876 : Int) < u2276.1)) (law24_ToyAsks_j5 u1099 g1876 g1877 g1879 e2264 u2276 true) (cond (decide ((u2276.2 : Int) ≤ g1876)) (law24_ToyAsks_j5 u1099 g1876 g1877 g1879 e2264 u2276 true) (cond (decide (((u1099.1.length : Int) : Int) < u2276.2)) (law24_ToyAsks_j5 u1099 g1876 g1877 g1879 e2264 u2276 true) (cond (!(e2264.Ring)) (law24_ToyAsks_j5 u1099 g1876 g1877 g1879 e2264 u2276 ((u2276.2 : Int) != (IntKind.i64.wrap (g1876 + 1)))) (law24_ToyAsks_j5 u1099 g1876 g1877 g1879 e2264 u2276 false))))) (some (.out (.go ())))
noncomputable def law24_ToyAsks (t_0 : (List Int)) : Option Bool := (mill_Light t_0).bind fun u1091 => cond (!(u1091)) ((law24_awake).bind fun u1094 => some (u1094)) ((mill_Roll t_0).bind fun u1096 => (mill_Rules u1096).bind fun u1099 => (loop (fun s : Int × (List Int) × Int => law24_ToyAsks_l6 u1099 s.1 s.2.1 s.2.2) (0, u1099.2.L, u1099.2.At)).bind fun r => Fl.el r (fun s => law24_ToyAsks_j1) (fun y => some (y)))
set_option maxRecDepth 100000 in
set_option maxHeartbeats 4000000 in
theorem law24_ToyAsks_c (T : Nat → Prop) (W0 : World) (hT : ∀ k, T k → k < W0.heap.size) (hLv : LvP T W0) (t_0 : (List Int)) (v1 : Value) (hv1 : SlR (Rep.int .i64) T W0 v1 t_0) (y : Bool) (hM : law24_ToyAsks t_0 = some y) : Rets Tryd.prog No 10 [v1] W0 (fun v w' => v = .bool y) := by
  refine enter (c := _) Tryd.func10 rfl T 105 Tryd.ntmps10 hT rfl fun a hS => ?_
  replace hS := hS.fact LvF (LvP.dn hLv)
  replace hS := hS.fact (SlF (Rep.int .i64) v1 t_0) (SlR.dn hv1)
  unfold law24_ToyAsks at hM
  refine wp_seq_k fun K154 hK154 => ?_
  refine r_list ?_
  refine wl rfl (ky (v := .bool false) hS (y_assign hS rfl) rfl rfl fun a hS => ?_)
  refine wpList_nil ?_
  try simp only [Exit.then, Exit.inBlock, ↓reduceIte, Nat.reduceEqDiff]
  refine hK154 _ _ ?_
  refine wp_seq_k fun K155 hK155 => ?_
  refine wp_seq_k fun K156 hK156 => ?_
  refine r_list ?_
  refine wl rfl (ky (v := v1) hS (y_move hS rfl) rfl rfl fun a hS => ?_)
  obtain ⟨u1091, hu1091, hM⟩ := bd hM
  refine wl rfl (k_call hS ci26 rfl rfl (mill_Light_c _ _ hS.dlt t_0 _ (hS.get 0 rfl) _ hu1091) fun _ w hR a hk hA => ?_)
  have he := Eq.symm hR
  subst he
  have hS := hA [] (fun r hr => by cases hr) List.Pairwise.nil
  refine wl rfl (ky (v := .bool (!(u1091))) hS (y_not hS rfl) rfl rfl fun a hS => ?_)
  refine wpList_nil ?_
  try simp only [Exit.then, Exit.inBlock, ↓reduceIte, Nat.reduceEqDiff]
  refine hK156 _ _ ?_
  rcases bool2 (!(u1091)) with hb1093 | hb1093
  · replace hM := ct hb1093 hM
    refine c_t hS rfl hb1093 ?_
    refine wp_seq_k fun K157 hK157 => ?_
    refine r_list ?_
    obtain ⟨u1094, hu1094, hM⟩ := bd hM
    refine wl rfl (k_call hS ci27 rfl rfl (law24_awake_c _ _ hS.dlt (hS.get 1 rfl) _ hu1094) fun _ w hR a hk hA => ?_)
    have he := Eq.symm hR
    subst he
    have hS := hA [] (fun r hr => by cases hr) List.Pairwise.nil
    refine wl rfl (ky (v := .bool u1094) hS (y_assign hS rfl) rfl rfl fun a hS => ?_)
    refine wpList_nil ?_
    try simp only [Exit.then, Exit.inBlock, ↓reduceIte, Nat.reduceEqDiff]
    refine hK157 _ _ ?_
    refine wp_ret ?_
    injection hM with hM
    subst hM
    try simp only [Exit.then, Exit.inBlock, ↓reduceIte, Nat.reduceEqDiff]
    refine ret_ok hS Tryd.results10 (res_tmp hS rfl res_nil) ?_
    exact rfl
  · replace hM := cf hb1093 hM
    refine c_f hS rfl hb1093 ?_
    refine wp_skip ?_
    try simp only [Exit.then, Exit.inBlock, ↓reduceIte, Nat.reduceEqDiff]
    refine hK155 _ _ ?_
    refine wp_seq_k fun K158 hK158 => ?_
    refine r_list ?_
    refine wl rfl (ky (v := v1) hS (y_move hS rfl) rfl rfl fun a hS => ?_)
    obtain ⟨u1096, hu1096, hM⟩ := bd hM
    refine wl rfl (k_call hS ci29 rfl rfl (mill_Roll_c _ _ hS.dlt t_0 _ (hS.get 0 rfl) _ hu1096) fun _ w hR a hk hA => ?_)
    obtain ⟨bz1097_2, vz1097_3, he, hFbz1097_2, hObz1097_2, hRvz1097_3⟩ := hR
    replace he := he.symm
    subst he
    have hS := hA [.box bz1097_2 [vz1097_3, .int .i64 u1096.At] 84] (adds1 hObz1097_2 (fun k hk => by simp only [Res.dom, Option.some.injEq] at hk; omega)) (pw1 _)
    replace hS := hS.fact (SlF (Rep.int .i64) vz1097_3 u1096.L) (hRvz1097_3.sub (dT_dT _))
    refine wl rfl (ky (v := .pointer (some ⟨bz1097_2, 0, none⟩)) hS (y_assign hS rfl) rfl rfl fun a hS => ?_)
    refine wpList_nil ?_
    try simp only [Exit.then, Exit.inBlock, ↓reduceIte, Nat.reduceEqDiff]
    refine hK158 _ _ ?_
    refine wp_seq_k fun K159 hK159 => ?_
    refine r_list ?_
    refine wl rfl (ky (v := .pointer (some ⟨bz1097_2, 0, none⟩)) hS (y_move hS rfl) rfl rfl fun a hS => ?_)
    obtain ⟨u1099, hu1099, hM⟩ := bd hM
    refine wl rfl (k_callmr hS ci28 rfl rfl 0 rfl (mill_Rules_c _ _ (hS.drop 0).dlt u1096 _ _ (hS.boxRow 0 rfl) (hS.notin 0 rfl) (SlR.lent (i := 0) rfl (hS.get 0 rfl)) _ hu1099) fun _ w hR hk => ?_)
    obtain ⟨vz1100_3, clz1100_4, vz1100_5, he, ⟨hOvz1100_3, hFvz1100_3, hRvz1100_3⟩, hrow, hRvz1100_5⟩ := hR
    replace he := he.symm
    subst he
    refine ⟨[vz1100_5, .int .i64 u1099.2.At], [.own vz1100_3 53 R_RuleD.size clz1100_4], hrow, adds1 ⟨hOvz1100_3, by decide⟩ hFvz1100_3, pw1 _, fun a hS => ?_⟩
    replace hS := hS.fact (RowsF R_RuleD clz1100_4 u1099.1) (hRvz1100_3.keep (Kt.refl _ _) (Nw.back2 (i := 0) rfl [.own vz1100_3 53 R_RuleD.size clz1100_4] _))
    replace hS := hS.fact (SlF (Rep.int .i64) vz1100_5 u1099.2.L) (hRvz1100_5.sub (Nw.back2 (i := 0) rfl [.own vz1100_3 53 R_RuleD.size clz1100_4] _))
    refine wl rfl (ky (v := vz1100_3) hS (y_assign hS rfl) rfl rfl fun a hS => ?_)
    refine wpList_nil ?_
    try simp only [Exit.then, Exit.inBlock, ↓reduceIte, Nat.reduceEqDiff]
    refine hK159 _ _ ?_
    refine seq_j (J := fun a w => St W0 No T 105 [] [] [LvF] a w ∧ law24_ToyAsks_j1 = some y) ?_ ?_
    · skip
      refine wp_seq_k fun K234 hK234 => ?_
      refine r_list ?_
      refine wl rfl (ky (v := vz1100_3) hS (y_move hS rfl) rfl rfl fun a hS => ?_)
      refine wl rfl (ky (v := .int .i64 (u1099.1.length : Int)) hS (y_leno (R := R_RuleD) (xs := u1099.1) hS sl49 rfl 0 rfl 1 rfl) rfl rfl fun a hS => ?_)
      refine wl rfl (ky (v := .int .i64 0) hS (y_move hS rfl) rfl rfl fun a hS => ?_)
      refine wpList_nil ?_
      try simp only [Exit.then, Exit.inBlock, ↓reduceIte, Nat.reduceEqDiff]
      refine hK234 _ _ ?_
      refine wp_block ?_
      obtain ⟨r1, hl1, hMo1⟩ := bd hM
      refine wp_lp (fun s : Int × (List Int) × Int => law24_ToyAsks_l6 u1099 s.1 s.2.1 s.2.2) (fun s a w => ∃ (g1876 : Int) (g1877 : (List Int)) (g1879 : Int) (v1878 : Value), (g1876, g1877, g1879) = s ∧ St W0 No T 105 [(3, .pointer (some ⟨bz1097_2, 0, none⟩)), (4, vz1100_3), (20, vz1100_3), (21, .int .i64 (u1099.1.length : Int)), (22, .int .i64 g1876)] [.own vz1100_3 53 R_RuleD.size clz1100_4, .box bz1097_2 [v1878, .int .i64 g1879] 84] [RowsF R_RuleD clz1100_4 u1099.1, SlF (Rep.int .i64) v1878 g1877, LvF] a w) hl1 ⟨0, u1099.2.L, u1099.2.At, vz1100_5, rfl, (hS.meet [0, 1] (by decide) ⟨rfl, rfl, rfl, rfl, rfl, trivial⟩ ⟨rfl, rfl, trivial⟩ ⟨⟨1, rfl⟩, ⟨0, rfl⟩, ⟨4, rfl⟩, trivial⟩)⟩ ?_
      rintro s a w f1 ⟨g1876, g1877, g1879, v1878, rfl, hS⟩ hM hf1
      have hM : law24_ToyAsks_l6 u1099 g1876 g1877 g1879 = some f1 := hM
      unfold law24_ToyAsks_l6 at hM
      refine wp_seq_k fun K307 hK307 => ?_
      refine r_list ?_
      refine wl rfl (ky (v := .bool (decide ((g1876 : Int) < (u1099.1.length : Int)))) hS (y_int hS rfl rfl rfl) rfl rfl fun a hS => ?_)
      refine wpList_nil ?_
      try simp only [Exit.then, Exit.inBlock, ↓reduceIte, Nat.reduceEqDiff]
      refine hK307 _ _ ?_
      refine wp_seq_k fun K308 hK308 => ?_
      rcases bool2 (decide ((g1876 : Int) < (u1099.1.length : Int))) with hb2136 | hb2136
      · replace hM := ct hb2136 hM
        refine c_t hS rfl hb2136 ?_
        refine wp_skip ?_
        try simp only [Exit.then, Exit.inBlock, ↓reduceIte, Nat.reduceEqDiff]
        refine hK308 _ _ ?_
        refine seq_j (J := fun a w => ∃ (g2261 : (List Int)) (g2263 : Int) (v2262 : Value), St W0 No T 105 [(3, .pointer (some ⟨bz1097_2, 0, none⟩)), (4, vz1100_3), (20, vz1100_3), (21, .int .i64 (u1099.1.length : Int)), (22, .int .i64 g1876)] [.own vz1100_3 53 R_RuleD.size clz1100_4, .box bz1097_2 [v2262, .int .i64 g2263] 84] [RowsF R_RuleD clz1100_4 u1099.1, SlF (Rep.int .i64) v2262 g2261, LvF] a w ∧ law24_ToyAsks_j2 g1876 g2261 g2263 = some f1) ?_ ?_
        · skip
          refine wp_block ?_
          refine wp_seq_k fun K326 hK326 => ?_
          refine r_list ?_
          refine wl rfl (ky (v := .int .i64 g1876) hS (y_move hS rfl) rfl rfl fun a hS => ?_)
          obtain ⟨e2264, he2264, hM⟩ := bd hM
          refine wl rfl (k_indexo (R := R_RuleD) hS sl49 ty53 rfl rfl 0 rfl 0 rfl he2264 rfl fun b2266 o2267 p2272 cs2269 hr2268 hO2270 hC2271 a hS => ?_)
          obtain ⟨v2265, rfl, hv2265⟩ := hr2268
          replace hS := hS.fact (SlF R_AskD v2265 e2264.Asks) hv2265
          refine wl rfl (ky (v := .agg #[.bool e2264.Ring, v2265, .int .i64 e2264.Final, .int .i64 e2264.C]) hS (y_loado (k := 0) hS ty53 0 rfl hO2270 hC2271 rfl id (us := [.bool e2264.Ring, v2265, .int .i64 e2264.Final, .int .i64 e2264.C]) rfl rfl (fun h => by cases h)) rfl rfl fun a hS => ?_)
          refine wl rfl (k_alloc hS ze53 rfl fun b2273 hnb2275 a w hk hS => ?_)
          refine wl rfl (ky (v := .int .i64 g1876) hS (y_assign hS rfl) rfl rfl fun a hS => ?_)
          refine wl rfl (k_store hS rfl rfl (us := [.bool e2264.Ring, v2265, .int .i64 e2264.Final, .int .i64 e2264.C]) rfl ty53 0 rfl rfl rfl (oc rfl (oc (SlR.one ((hS.get 0 rfl) : SlR R_AskD _ _ _ _)) (oc rfl (oc rfl on)))) fun w hk hS => ?_)
          refine wpList_nil ?_
          try simp only [Exit.then, Exit.inBlock, ↓reduceIte, Nat.reduceEqDiff]
          refine hK326 _ _ ?_
          refine wp_seq_k fun K327 hK327 => ?_
          refine r_list ?_
          refine wl rfl (ky (v := vz1100_3) hS (y_move hS rfl) rfl rfl fun a hS => ?_)
          refine wl rfl (ky (v := .int .i64 g1876) hS (y_move hS rfl) rfl rfl fun a hS => ?_)
          have hL := hS
          replace hL := hL.freeze (R := R_RuleD) 1 rfl 1 rfl
          obtain ⟨u2276, hu2276, hM⟩ := bd hM
          refine wl rfl (k_call hS ci32 rfl rfl (toy_Block_c _ _ hL.dlt u1099.1 g1876 _ (hL.get 0 rfl) _ hu2276) fun _ w hR a hk hA => ?_)
          have he := Eq.symm hR
          subst he
          have hS := hA [] (fun r hr => by cases hr) List.Pairwise.nil
          refine wl rfl (ky (v := .tuple #[.int .i64 u2276.1, .int .i64 u2276.2]) hS (y_move hS rfl) rfl rfl fun a hS => ?_)
          refine wl rfl (ky (v := .int .i64 u2276.1) hS (y_ex hS rfl rfl) rfl rfl fun a hS => ?_)
          refine wl rfl (ky (v := .int .i64 u2276.2) hS (y_ex hS rfl rfl) rfl rfl fun a hS => ?_)
          refine wl rfl (ky (v := .int .i64 u2276.1) hS (y_assign hS rfl) rfl rfl fun a hS => ?_)
          refine wl rfl (ky (v := .int .i64 u2276.2) hS (y_assign hS rfl) rfl rfl fun a hS => ?_)
          refine wpList_nil ?_
          try simp only [Exit.then, Exit.inBlock, ↓reduceIte, Nat.reduceEqDiff]
          refine hK327 _ _ ?_
          refine wp_seq_k fun K328 hK328 => ?_
          refine seq_j (J := fun a w => ∃ (g2286 : Bool), St W0 No T 105 [(3, .pointer (some ⟨bz1097_2, 0, none⟩)), (4, vz1100_3), (5, .int .i64 g1876), (6, .pointer (some ⟨b2273, 0, none⟩)), (7, .int .i64 u2276.1), (8, .int .i64 u2276.2), (20, vz1100_3), (21, .int .i64 (u1099.1.length : Int)), (22, .int .i64 g1876), (57, .bool g2286)] [.own vz1100_3 53 R_RuleD.size clz1100_4, .box bz1097_2 [v1878, .int .i64 g1879] 84, .box b2273 [.bool e2264.Ring, v2265, .int .i64 e2264.Final, .int .i64 e2264.C] 53] [RowsF R_RuleD clz1100_4 u1099.1, SlF (Rep.int .i64) v1878 g1877, SlF R_AskD v2265 e2264.Asks, LvF] a w ∧ law24_ToyAsks_j5 u1099 g1876 g1877 g1879 e2264 u2276 g2286 = some f1) ?_ ?_
          · skip
            refine r_list ?_
            refine wl rfl (ky (v := .int .i64 u2276.1) hS (y_move hS rfl) rfl rfl fun a hS => ?_)
            refine wl rfl (ky (v := .int .i64 g1876) hS (y_move hS rfl) rfl rfl fun a hS => ?_)
            refine wl rfl (ky (v := .bool (decide ((g1876 : Int) < u2276.1))) hS (y_int hS rfl rfl rfl) rfl rfl fun a hS => ?_)
            refine wl rfl (ky (v := .bool (decide ((g1876 : Int) < u2276.1))) hS (y_move hS rfl) rfl rfl fun a hS => ?_)
            rcases bool2 (decide ((g1876 : Int) < u2276.1)) with hb2422 | hb2422
            · replace hM := ct hb2422 hM
              refine wn hS rfl rfl rfl hb2422 rfl rfl fun a hS => ?_
              refine wn hS rfl rfl rfl hb2422 rfl rfl fun a hS => ?_
              refine wn hS rfl rfl rfl hb2422 rfl rfl fun a hS => ?_
              refine wl rfl (ky (v := .bool true) hS (y_pickt hS rfl hb2422 rfl) rfl rfl fun a hS => ?_)
              refine wl rfl (ky (v := .bool true) hS (y_move hS rfl) rfl rfl fun a hS => ?_)
              refine wn hS rfl rfl rfl rfl rfl rfl fun a hS => ?_
              refine wn hS rfl rfl rfl rfl rfl rfl fun a hS => ?_
              refine wn hS rfl rfl rfl rfl rfl rfl fun a hS => ?_
              refine wn hS rfl rfl rfl rfl rfl rfl fun a hS => ?_
              refine wl rfl (ky (v := .bool true) hS (y_pickt hS rfl rfl rfl) rfl rfl fun a hS => ?_)
              refine wl rfl (ky (v := .bool true) hS (y_move hS rfl) rfl rfl fun a hS => ?_)
              refine wn hS rfl rfl rfl rfl rfl rfl fun a hS => ?_
              refine wn hS rfl rfl rfl rfl rfl rfl fun a hS => ?_
              refine wn hS rfl rfl rfl rfl rfl rfl fun a hS => ?_
              refine wn hS rfl rfl rfl rfl rfl rfl fun a hS => ?_
              refine wnu hS rfl rfl rfl rfl rfl fun a hS => ?_
              refine wnu hS rfl rfl rfl rfl rfl fun a hS => ?_
              refine wnu hS rfl rfl rfl rfl rfl fun a hS => ?_
              refine wnu hS rfl rfl rfl rfl rfl fun a hS => ?_
              refine wn hS rfl rfl rfl rfl rfl rfl fun a hS => ?_
              refine wl rfl (ky (v := .bool true) hS (y_pickt hS rfl rfl rfl) rfl rfl fun a hS => ?_)
              refine wpList_nil ?_
              try simp only [Exit.then, Exit.inBlock, ↓reduceIte, Nat.reduceEqDiff]
              exact ⟨true, (hS.meet [1, 2, 0] (by decide) ⟨rfl, rfl, rfl, rfl, rfl, rfl, rfl, rfl, rfl, rfl, trivial⟩ ⟨rfl, rfl, rfl, trivial⟩ ⟨⟨1, rfl⟩, ⟨2, rfl⟩, ⟨0, rfl⟩, ⟨3, rfl⟩, trivial⟩), hM⟩
            · replace hM := cf hb2422 hM
              refine wg hS rfl rfl rfl hb2422 (ky (v := .int .i64 u2276.2) hS (y_move hS rfl) rfl rfl fun a hS => ?_)
              refine wg hS rfl rfl rfl hb2422 (ky (v := .int .i64 g1876) hS (y_move hS rfl) rfl rfl fun a hS => ?_)
              refine wg hS rfl rfl rfl hb2422 (ky (v := .bool (decide ((u2276.2 : Int) ≤ g1876))) hS (y_int hS rfl rfl rfl) rfl rfl fun a hS => ?_)
              refine wl rfl (ky (v := .bool (decide ((u2276.2 : Int) ≤ g1876))) hS (y_pickf hS rfl hb2422 rfl) rfl rfl fun a hS => ?_)
              refine wl rfl (ky (v := .bool (decide ((u2276.2 : Int) ≤ g1876))) hS (y_move hS rfl) rfl rfl fun a hS => ?_)
              rcases bool2 (decide ((u2276.2 : Int) ≤ g1876)) with hb2423 | hb2423
              · replace hM := ct hb2423 hM
                refine wn hS rfl rfl rfl hb2423 rfl rfl fun a hS => ?_
                refine wn hS rfl rfl rfl hb2423 rfl rfl fun a hS => ?_
                refine wn hS rfl rfl rfl hb2423 rfl rfl fun a hS => ?_
                refine wn hS rfl rfl rfl hb2423 rfl rfl fun a hS => ?_
                refine wl rfl (ky (v := .bool true) hS (y_pickt hS rfl hb2423 rfl) rfl rfl fun a hS => ?_)
                refine wl rfl (ky (v := .bool true) hS (y_move hS rfl) rfl rfl fun a hS => ?_)
                refine wn hS rfl rfl rfl rfl rfl rfl fun a hS => ?_
                refine wn hS rfl rfl rfl rfl rfl rfl fun a hS => ?_
                refine wn hS rfl rfl rfl rfl rfl rfl fun a hS => ?_
                refine wn hS rfl rfl rfl rfl rfl rfl fun a hS => ?_
                refine wnu hS rfl rfl rfl rfl rfl fun a hS => ?_
                refine wnu hS rfl rfl rfl rfl rfl fun a hS => ?_
                refine wnu hS rfl rfl rfl rfl rfl fun a hS => ?_
                refine wnu hS rfl rfl rfl rfl rfl fun a hS => ?_
                refine wn hS rfl rfl rfl rfl rfl rfl fun a hS => ?_
                refine wl rfl (ky (v := .bool true) hS (y_pickt hS rfl rfl rfl) rfl rfl fun a hS => ?_)
                refine wpList_nil ?_
                try simp only [Exit.then, Exit.inBlock, ↓reduceIte, Nat.reduceEqDiff]
                exact ⟨true, (hS.meet [1, 2, 0] (by decide) ⟨rfl, rfl, rfl, rfl, rfl, rfl, rfl, rfl, rfl, rfl, trivial⟩ ⟨rfl, rfl, rfl, trivial⟩ ⟨⟨1, rfl⟩, ⟨2, rfl⟩, ⟨0, rfl⟩, ⟨3, rfl⟩, trivial⟩), hM⟩
              · replace hM := cf hb2423 hM
                refine wg hS rfl rfl rfl hb2423 (ky (v := .int .i64 u2276.2) hS (y_move hS rfl) rfl rfl fun a hS => ?_)
                refine wg hS rfl rfl rfl hb2423 (ky (v := vz1100_3) hS (y_move hS rfl) rfl rfl fun a hS => ?_)
                refine wg hS rfl rfl rfl hb2423 (ky (v := .int .i64 (u1099.1.length : Int)) hS (y_leno (R := R_RuleD) (xs := u1099.1) hS sl49 rfl 1 rfl 1 rfl) rfl rfl fun a hS => ?_)
                refine wg hS rfl rfl rfl hb2423 (ky (v := .bool (decide (((u1099.1.length : Int) : Int) < u2276.2))) hS (y_int hS rfl rfl rfl) rfl rfl fun a hS => ?_)
                refine wl rfl (ky (v := .bool (decide (((u1099.1.length : Int) : Int) < u2276.2))) hS (y_pickf hS rfl hb2423 rfl) rfl rfl fun a hS => ?_)
                refine wl rfl (ky (v := .bool (decide (((u1099.1.length : Int) : Int) < u2276.2))) hS (y_move hS rfl) rfl rfl fun a hS => ?_)
                rcases bool2 (decide (((u1099.1.length : Int) : Int) < u2276.2)) with hb2424 | hb2424
                · replace hM := ct hb2424 hM
                  refine wn hS rfl rfl rfl hb2424 rfl rfl fun a hS => ?_
                  refine wn hS rfl rfl rfl hb2424 rfl rfl fun a hS => ?_
                  refine wn hS rfl rfl rfl hb2424 rfl rfl fun a hS => ?_
                  refine wn hS rfl rfl rfl hb2424 rfl rfl fun a hS => ?_
                  refine wnu hS rfl rfl rfl rfl rfl fun a hS => ?_
                  refine wnu hS rfl rfl rfl rfl rfl fun a hS => ?_
                  refine wnu hS rfl rfl rfl rfl rfl fun a hS => ?_
                  refine wnu hS rfl rfl rfl rfl rfl fun a hS => ?_
                  refine wn hS rfl rfl rfl hb2424 rfl rfl fun a hS => ?_
                  refine wl rfl (ky (v := .bool true) hS (y_pickt hS rfl hb2424 rfl) rfl rfl fun a hS => ?_)
                  refine wpList_nil ?_
                  try simp only [Exit.then, Exit.inBlock, ↓reduceIte, Nat.reduceEqDiff]
                  exact ⟨true, (hS.meet [1, 2, 0] (by decide) ⟨rfl, rfl, rfl, rfl, rfl, rfl, rfl, rfl, rfl, rfl, trivial⟩ ⟨rfl, rfl, rfl, trivial⟩ ⟨⟨1, rfl⟩, ⟨2, rfl⟩, ⟨0, rfl⟩, ⟨3, rfl⟩, trivial⟩), hM⟩
                · replace hM := cf hb2424 hM
                  refine wg hS rfl rfl rfl hb2424 (ky (v := .pointer (some ⟨b2273, 0 + 0, none⟩)) hS (y_fld hS rfl fl53_0) rfl rfl fun a hS => ?_)
                  refine wg hS rfl rfl rfl hb2424 (ky (v := .bool e2264.Ring) hS (y_load hS rfl ty4 0 rfl id (us := [.bool e2264.Ring]) rfl rfl (fun _ => rfl)) rfl rfl fun a hS => ?_)
                  refine wg hS rfl rfl rfl hb2424 (ky (v := .bool (!(e2264.Ring))) hS (y_not hS rfl) rfl rfl fun a hS => ?_)
                  refine wg hS rfl rfl rfl hb2424 (ky (v := .bool (!(e2264.Ring))) hS (y_move hS rfl) rfl rfl fun a hS => ?_)
                  rcases bool2 (!(e2264.Ring)) with hb2425 | hb2425
                  · replace hM := ct hb2425 hM
                    refine wg hS rfl rfl rfl hb2425 (ky (v := .int .i64 u2276.2) hS (y_move hS rfl) rfl rfl fun a hS => ?_)
                    refine wg hS rfl rfl rfl hb2425 (ky (v := .int .i64 g1876) hS (y_move hS rfl) rfl rfl fun a hS => ?_)
                    refine wg hS rfl rfl rfl hb2425 (ky (v := .int .i64 (IntKind.i64.wrap (g1876 + 1))) hS (y_int hS rfl rfl rfl) rfl rfl fun a hS => ?_)
                    refine wg hS rfl rfl rfl hb2425 (ky (v := .bool ((u2276.2 : Int) != (IntKind.i64.wrap (g1876 + 1)))) hS (y_int hS rfl rfl rfl) rfl rfl fun a hS => ?_)
                    refine wg hS rfl rfl rfl hb2424 (ky (v := .bool ((u2276.2 : Int) != (IntKind.i64.wrap (g1876 + 1)))) hS (y_pickt hS rfl hb2425 rfl) rfl rfl fun a hS => ?_)
                    refine wl rfl (ky (v := .bool ((u2276.2 : Int) != (IntKind.i64.wrap (g1876 + 1)))) hS (y_pickf hS rfl hb2424 rfl) rfl rfl fun a hS => ?_)
                    refine wpList_nil ?_
                    try simp only [Exit.then, Exit.inBlock, ↓reduceIte, Nat.reduceEqDiff]
                    exact ⟨((u2276.2 : Int) != (IntKind.i64.wrap (g1876 + 1))), (hS.meet [1, 2, 0] (by decide) ⟨rfl, rfl, rfl, rfl, rfl, rfl, rfl, rfl, rfl, rfl, trivial⟩ ⟨rfl, rfl, rfl, trivial⟩ ⟨⟨1, rfl⟩, ⟨2, rfl⟩, ⟨0, rfl⟩, ⟨3, rfl⟩, trivial⟩), hM⟩
                  · replace hM := cf hb2425 hM
                    refine wn hS rfl rfl rfl hb2425 rfl rfl fun a hS => ?_
                    refine wn hS rfl rfl rfl hb2425 rfl rfl fun a hS => ?_
                    refine wn hS rfl rfl rfl hb2425 rfl rfl fun a hS => ?_
                    refine wn hS rfl rfl rfl hb2425 rfl rfl fun a hS => ?_
                    refine wg hS rfl rfl rfl hb2424 (ky (v := .bool false) hS (y_pickf hS rfl hb2425 rfl) rfl rfl fun a hS => ?_)
                    refine wl rfl (ky (v := .bool false) hS (y_pickf hS rfl hb2424 rfl) rfl rfl fun a hS => ?_)
                    refine wpList_nil ?_
                    try simp only [Exit.then, Exit.inBlock, ↓reduceIte, Nat.reduceEqDiff]
                    exact ⟨false, (hS.meet [1, 2, 0] (by decide) ⟨rfl, rfl, rfl, rfl, rfl, rfl, rfl, rfl, rfl, rfl, trivial⟩ ⟨rfl, rfl, rfl, trivial⟩ ⟨⟨1, rfl⟩, ⟨2, rfl⟩, ⟨0, rfl⟩, ⟨3, rfl⟩, trivial⟩), hM⟩
          · rintro a w ⟨g2286, hS, hM⟩
            unfold law24_ToyAsks_j5 at hM
            rcases bool2 (g2286) with hb2287 | hb2287
            · replace hM := ct hb2287 hM
              refine c_t hS rfl hb2287 ?_
              refine wp_seq_k fun K329 hK329 => ?_
              refine r_list ?_
              refine wl rfl (ky (v := .bool false) hS (y_assign hS rfl) rfl rfl fun a hS => ?_)
              refine wpList_nil ?_
              try simp only [Exit.then, Exit.inBlock, ↓reduceIte, Nat.reduceEqDiff]
              refine hK329 _ _ ?_
              refine wp_ret ?_
              injection hM with hM
              subst hM
              have hr := hf1 _ rfl
              subst hr
              replace hMo1 := el_out hMo1
              have hM := hMo1
              injection hM with hM
              subst hM
              try simp only [Exit.then, Exit.inBlock, ↓reduceIte, Nat.reduceEqDiff]
              refine ret_ok hS Tryd.results10 (res_tmp hS rfl res_nil) ?_
              exact rfl
            · replace hM := cf hb2287 hM
              refine c_f hS rfl hb2287 ?_
              refine wp_skip ?_
              try simp only [Exit.then, Exit.inBlock, ↓reduceIte, Nat.reduceEqDiff]
              refine hK328 _ _ ?_
              refine wp_seq_k fun K330 hK330 => ?_
              refine r_list ?_
              refine wl rfl (ky (v := .slice none 0 0) hS (y_assign hS rfl) rfl rfl fun a hS => ?_)
              refine wpList_nil ?_
              try simp only [Exit.then, Exit.inBlock, ↓reduceIte, Nat.reduceEqDiff]
              refine hK330 _ _ ?_
              refine wp_block ?_
              replace hS := hS.nilRow Rep.str 9 (by decide)
              obtain ⟨r2, hl2, hMo2⟩ := bd hM
              refine wp_lp (fun s : (List ByteArray) × (List Int) × Int => law24_ToyAsks_l4 u1099 g1876 e2264 u2276 s.1 s.2.1 s.2.2) (fun s a w => ∃ (answers2333 : (List ByteArray)) (g2337 : (List Int)) (g2339 : Int) (v2334 : Value) (cl2335 : (List Value)) (v2338 : Value), (answers2333, g2337, g2339) = s ∧ St W0 No T 105 [(3, .pointer (some ⟨bz1097_2, 0, none⟩)), (4, vz1100_3), (5, .int .i64 g1876), (6, .pointer (some ⟨b2273, 0, none⟩)), (7, .int .i64 u2276.1), (8, .int .i64 u2276.2), (9, v2334), (20, vz1100_3), (21, .int .i64 (u1099.1.length : Int)), (22, .int .i64 g1876)] [.own vz1100_3 53 R_RuleD.size clz1100_4, .own v2334 9 Rep.str.size cl2335, .box bz1097_2 [v2338, .int .i64 g2339] 84, .box b2273 [.bool e2264.Ring, v2265, .int .i64 e2264.Final, .int .i64 e2264.C] 53] [RowsF R_RuleD clz1100_4 u1099.1, RowsF Rep.str cl2335 answers2333, SlF (Rep.int .i64) v2338 g2337, SlF R_AskD v2265 e2264.Asks, LvF] a w) hl2 ⟨([] : List ByteArray), g1877, g1879, (.slice none 0 0), ([]), v1878, rfl, (hS.meet [1, 0, 2, 3] (by decide) ⟨rfl, rfl, rfl, rfl, rfl, rfl, rfl, rfl, rfl, rfl, trivial⟩ ⟨rfl, rfl, rfl, rfl, trivial⟩ ⟨⟨1, rfl⟩, ⟨0, rfl⟩, ⟨2, rfl⟩, ⟨3, rfl⟩, ⟨4, rfl⟩, trivial⟩)⟩ ?_
              rintro s a w f2 ⟨answers2333, g2337, g2339, v2334, cl2335, v2338, rfl, hS⟩ hM hf2
              have hM : law24_ToyAsks_l4 u1099 g1876 e2264 u2276 answers2333 g2337 g2339 = some f2 := hM
              unfold law24_ToyAsks_l4 at hM
              refine wp_block ?_
              refine wp_seq_k fun K343 hK343 => ?_
              refine r_list ?_
              refine wl rfl (ky (v := vz1100_3) hS (y_move hS rfl) rfl rfl fun a hS => ?_)
              refine wl rfl (ky (v := vz1100_3) hS (y_move hS rfl) rfl rfl fun a hS => ?_)
              refine wl rfl (ky (v := .int .i64 g1876) hS (y_move hS rfl) rfl rfl fun a hS => ?_)
              have hL := hS
              replace hL := hL.freeze (R := R_RuleD) 0 rfl 0 rfl
              obtain ⟨u2385, hu2385, hM⟩ := bd hM
              refine wl rfl (k_call hS ci35 rfl rfl (ref23_Of_c _ _ hL.dlt (hL.get 5 rfl) u1099.1 g1876 _ (hL.get 0 rfl) _ hu2385) fun _ w hR a hk hA => ?_)
              have he := Eq.symm hR
              subst he
              have hS := hA [] (fun r hr => by cases hr) List.Pairwise.nil
              refine wl rfl (ky (v := v2334) hS (y_move hS rfl) rfl rfl fun a hS => ?_)
              have hL := hS
              replace hL := hL.freeze (R := R_RuleD) 0 rfl 0 rfl
              replace hL := hL.freeze (R := Rep.str) 0 rfl 2 rfl
              obtain ⟨u2387, hu2387, hM⟩ := bd hM
              refine wl rfl (k_call hS ci37 rfl rfl (toy_Turn_c _ _ hL.dlt (hL.get 6 rfl) u1099.1 u2385 answers2333 _ _ (hL.get 1 rfl) (hL.get 0 rfl) _ hu2387) fun _ w hR a hk hA => ?_)
              have he := Eq.symm hR
              subst he
              have hS := hA [] (fun r hr => by cases hr) List.Pairwise.nil
              refine wl rfl (k_alloc hS ze70 rfl fun b2389 hnb2391 a w hk hS => ?_)
              refine wl rfl (k_store hS rfl rfl (us := [.bool u2387.Done, .string u2387.Value, .int .i64 u2387.Ask.Kind, .string u2387.Ask.Text]) rfl ty70 0 rfl rfl rfl (oc rfl (oc rfl (oc rfl (oc rfl on)))) fun w hk hS => ?_)
              refine wpList_nil ?_
              try simp only [Exit.then, Exit.inBlock, ↓reduceIte, Nat.reduceEqDiff]
              refine hK343 _ _ ?_
              refine wp_seq_k fun K344 hK344 => ?_
              refine wp_seq_k fun K345 hK345 => ?_
              refine r_list ?_
              refine wl rfl (ky (v := .pointer (some ⟨b2389, 0 + 0, none⟩)) hS (y_fld hS rfl fl70_0) rfl rfl fun a hS => ?_)
              refine wl rfl (ky (v := .bool u2387.Done) hS (y_load hS rfl ty4 0 rfl id (us := [.bool u2387.Done]) rfl rfl (fun _ => rfl)) rfl rfl fun a hS => ?_)
              refine wpList_nil ?_
              try simp only [Exit.then, Exit.inBlock, ↓reduceIte, Nat.reduceEqDiff]
              refine hK345 _ _ ?_
              rcases bool2 (u2387.Done) with hb2392 | hb2392
              · replace hM := ct hb2392 hM
                refine c_t hS rfl hb2392 ?_
                refine wp_exit ?_
                try simp only [Exit.then, Exit.inBlock, ↓reduceIte, Nat.reduceEqDiff]
                injection hM with hM
                subst hM
                have hr := hf2 _ rfl
                subst hr
                replace hMo2 := el_go hMo2
                have hM : law24_ToyAsks_j2 g1876 g2337 g2339 = some f1 := hMo2
                exact ⟨g2337, g2339, v2338, (hS.meet [1, 3] (by decide) ⟨rfl, rfl, rfl, rfl, rfl, trivial⟩ ⟨rfl, rfl, trivial⟩ ⟨⟨0, rfl⟩, ⟨2, rfl⟩, ⟨4, rfl⟩, trivial⟩), hM⟩
              · replace hM := cf hb2392 hM
                refine c_f hS rfl hb2392 ?_
                refine wp_skip ?_
                try simp only [Exit.then, Exit.inBlock, ↓reduceIte, Nat.reduceEqDiff]
                refine hK344 _ _ ?_
                refine wp_seq_k fun K346 hK346 => ?_
                refine r_list ?_
                refine wl rfl (ky (v := .pointer (some ⟨b2389, 0 + 2, none⟩)) hS (y_fld hS rfl fl70_2) rfl rfl fun a hS => ?_)
                refine wl rfl (ky (v := .agg #[.int .i64 u2387.Ask.Kind, .string u2387.Ask.Text]) hS (y_load hS rfl ty28 0 rfl id (us := [.int .i64 u2387.Ask.Kind, .string u2387.Ask.Text]) rfl rfl (fun h => by cases h)) rfl rfl fun a hS => ?_)
                obtain ⟨u2393, hu2393, hM⟩ := bd hM
                refine wl rfl (k_call hS ci43 rfl rfl (ref23_Number_c _ _ hS.dlt u2387.Ask _ hu2393) fun _ w hR a hk hA => ?_)
                have he := Eq.symm hR
                subst he
                have hS := hA [] (fun r hr => by cases hr) List.Pairwise.nil
                refine wl rfl (ky (v := .int .i64 u2393) hS (y_assign hS rfl) rfl rfl fun a hS => ?_)
                refine wpList_nil ?_
                try simp only [Exit.then, Exit.inBlock, ↓reduceIte, Nat.reduceEqDiff]
                refine hK346 _ _ ?_
                refine wp_seq_k fun K347 hK347 => ?_
                refine seq_j (J := fun a w => ∃ (g2405 : Bool), St W0 No T 105 [(3, .pointer (some ⟨bz1097_2, 0, none⟩)), (4, vz1100_3), (5, .int .i64 g1876), (6, .pointer (some ⟨b2273, 0, none⟩)), (7, .int .i64 u2276.1), (8, .int .i64 u2276.2), (9, v2334), (20, vz1100_3), (21, .int .i64 (u1099.1.length : Int)), (22, .int .i64 g1876), (96, .bool g2405)] [.own vz1100_3 53 R_RuleD.size clz1100_4, .own v2334 9 Rep.str.size cl2335, .box bz1097_2 [v2338, .int .i64 g2339] 84, .box b2273 [.bool e2264.Ring, v2265, .int .i64 e2264.Final, .int .i64 e2264.C] 53] [RowsF R_RuleD clz1100_4 u1099.1, RowsF Rep.str cl2335 answers2333, SlF (Rep.int .i64) v2338 g2337, SlF R_AskD v2265 e2264.Asks, LvF] a w ∧ law24_ToyAsks_j3 answers2333 g2337 g2339 g2405 = some f2) ?_ ?_
                · skip
                  refine r_list ?_
                  refine wl rfl (ky (v := v2334) hS (y_move hS rfl) rfl rfl fun a hS => ?_)
                  refine wl rfl (ky (v := .int .i64 (answers2333.length : Int)) hS (y_leno (R := Rep.str) (xs := answers2333) hS sl65 rfl 2 rfl 1 rfl) rfl rfl fun a hS => ?_)
                  refine wl rfl (ky (v := .bool (decide ((6 : Int) < (answers2333.length : Int)))) hS (y_int hS rfl rfl rfl) rfl rfl fun a hS => ?_)
                  refine wl rfl (ky (v := .bool (decide ((6 : Int) < (answers2333.length : Int)))) hS (y_move hS rfl) rfl rfl fun a hS => ?_)
                  rcases bool2 (decide ((6 : Int) < (answers2333.length : Int))) with hb2417 | hb2417
                  · replace hM := ct hb2417 hM
                    refine wn hS rfl rfl rfl hb2417 rfl rfl fun a hS => ?_
                    refine wn hS rfl rfl rfl hb2417 rfl rfl fun a hS => ?_
                    refine wl rfl (ky (v := .bool true) hS (y_pickt hS rfl hb2417 rfl) rfl rfl fun a hS => ?_)
                    refine wl rfl (ky (v := .bool true) hS (y_move hS rfl) rfl rfl fun a hS => ?_)
                    refine wn hS rfl rfl rfl rfl rfl rfl fun a hS => ?_
                    refine wn hS rfl rfl rfl rfl rfl rfl fun a hS => ?_
                    refine wn hS rfl rfl rfl rfl rfl rfl fun a hS => ?_
                    refine wn hS rfl rfl rfl rfl rfl rfl fun a hS => ?_
                    refine wn hS rfl rfl rfl rfl rfl rfl fun a hS => ?_
                    refine wnu hS rfl rfl rfl rfl rfl fun a hS => ?_
                    refine wnu hS rfl rfl rfl rfl rfl fun a hS => ?_
                    refine wnu hS rfl rfl rfl rfl rfl fun a hS => ?_
                    refine wnu hS rfl rfl rfl rfl rfl fun a hS => ?_
                    refine wnu hS rfl rfl rfl rfl rfl fun a hS => ?_
                    refine wnu hS rfl rfl rfl rfl rfl fun a hS => ?_
                    refine wnu hS rfl rfl rfl rfl rfl fun a hS => ?_
                    refine wnu hS rfl rfl rfl rfl rfl fun a hS => ?_
                    refine wnu hS rfl rfl rfl rfl rfl fun a hS => ?_
                    refine wnu hS rfl rfl rfl rfl rfl fun a hS => ?_
                    refine wnu hS rfl rfl rfl rfl rfl fun a hS => ?_
                    refine wnu hS rfl rfl rfl rfl rfl fun a hS => ?_
                    refine wnu hS rfl rfl rfl rfl rfl fun a hS => ?_
                    refine wn hS rfl rfl rfl rfl rfl rfl fun a hS => ?_
                    refine wl rfl (ky (v := .bool true) hS (y_pickt hS rfl rfl rfl) rfl rfl fun a hS => ?_)
                    refine wpList_nil ?_
                    try simp only [Exit.then, Exit.inBlock, ↓reduceIte, Nat.reduceEqDiff]
                    exact ⟨true, (hS.meet [1, 2, 3, 4] (by decide) ⟨rfl, rfl, rfl, rfl, rfl, rfl, rfl, rfl, rfl, rfl, rfl, trivial⟩ ⟨rfl, rfl, rfl, rfl, trivial⟩ ⟨⟨0, rfl⟩, ⟨1, rfl⟩, ⟨2, rfl⟩, ⟨3, rfl⟩, ⟨4, rfl⟩, trivial⟩), hM⟩
                  · replace hM := cf hb2417 hM
                    refine wg hS rfl rfl rfl hb2417 (ky (v := .int .i64 u2393) hS (y_move hS rfl) rfl rfl fun a hS => ?_)
                    refine wg hS rfl rfl rfl hb2417 (ky (v := .bool (decide ((u2393 : Int) < 0))) hS (y_int hS rfl rfl rfl) rfl rfl fun a hS => ?_)
                    refine wl rfl (ky (v := .bool (decide ((u2393 : Int) < 0))) hS (y_pickf hS rfl hb2417 rfl) rfl rfl fun a hS => ?_)
                    refine wl rfl (ky (v := .bool (decide ((u2393 : Int) < 0))) hS (y_move hS rfl) rfl rfl fun a hS => ?_)
                    rcases bool2 (decide ((u2393 : Int) < 0)) with hb2418 | hb2418
                    · replace hM := ct hb2418 hM
                      refine wn hS rfl rfl rfl hb2418 rfl rfl fun a hS => ?_
                      refine wn hS rfl rfl rfl hb2418 rfl rfl fun a hS => ?_
                      refine wn hS rfl rfl rfl hb2418 rfl rfl fun a hS => ?_
                      refine wn hS rfl rfl rfl hb2418 rfl rfl fun a hS => ?_
                      refine wn hS rfl rfl rfl hb2418 rfl rfl fun a hS => ?_
                      refine wnu hS rfl rfl rfl rfl rfl fun a hS => ?_
                      refine wnu hS rfl rfl rfl rfl rfl fun a hS => ?_
                      refine wnu hS rfl rfl rfl rfl rfl fun a hS => ?_
                      refine wnu hS rfl rfl rfl rfl rfl fun a hS => ?_
                      refine wnu hS rfl rfl rfl rfl rfl fun a hS => ?_
                      refine wnu hS rfl rfl rfl rfl rfl fun a hS => ?_
                      refine wnu hS rfl rfl rfl rfl rfl fun a hS => ?_
                      refine wnu hS rfl rfl rfl rfl rfl fun a hS => ?_
                      refine wnu hS rfl rfl rfl rfl rfl fun a hS => ?_
                      refine wnu hS rfl rfl rfl rfl rfl fun a hS => ?_
                      refine wnu hS rfl rfl rfl rfl rfl fun a hS => ?_
                      refine wnu hS rfl rfl rfl rfl rfl fun a hS => ?_
                      refine wnu hS rfl rfl rfl rfl rfl fun a hS => ?_
                      refine wn hS rfl rfl rfl hb2418 rfl rfl fun a hS => ?_
                      refine wl rfl (ky (v := .bool true) hS (y_pickt hS rfl hb2418 rfl) rfl rfl fun a hS => ?_)
                      refine wpList_nil ?_
                      try simp only [Exit.then, Exit.inBlock, ↓reduceIte, Nat.reduceEqDiff]
                      exact ⟨true, (hS.meet [1, 2, 3, 4] (by decide) ⟨rfl, rfl, rfl, rfl, rfl, rfl, rfl, rfl, rfl, rfl, rfl, trivial⟩ ⟨rfl, rfl, rfl, rfl, trivial⟩ ⟨⟨0, rfl⟩, ⟨1, rfl⟩, ⟨2, rfl⟩, ⟨3, rfl⟩, ⟨4, rfl⟩, trivial⟩), hM⟩
                    · replace hM := cf hb2418 hM
                      refine wg hS rfl rfl rfl hb2418 (ky (v := .pointer (some ⟨b2389, 0 + 2, none⟩)) hS (y_fld hS rfl fl70_2) rfl rfl fun a hS => ?_)
                      refine wg hS rfl rfl rfl hb2418 (ky (v := .pointer (some ⟨b2389, 0 + 2 + 0, none⟩)) hS (y_fld hS rfl fl28_0) rfl rfl fun a hS => ?_)
                      refine wg hS rfl rfl rfl hb2418 (ky (v := .int .i64 u2387.Ask.Kind) hS (y_load hS rfl ty3 0 rfl id (us := [.int .i64 u2387.Ask.Kind]) rfl rfl (fun _ => rfl)) rfl rfl fun a hS => ?_)
                      refine wg hS rfl rfl rfl hb2418 (ky (v := .bool ((u2387.Ask.Kind : Int) != 30)) hS (y_int hS rfl rfl rfl) rfl rfl fun a hS => ?_)
                      refine wg hS rfl rfl rfl hb2418 (ky (v := .bool ((u2387.Ask.Kind : Int) != 30)) hS (y_move hS rfl) rfl rfl fun a hS => ?_)
                      rcases bool2 ((u2387.Ask.Kind : Int) != 30) with hb2419 | hb2419
                      · replace hM := ct hb2419 hM
                        refine wg hS rfl rfl rfl hb2419 (ky (v := .int .i64 u2393) hS (y_move hS rfl) rfl rfl fun a hS => ?_)
                        refine wg hS rfl rfl rfl hb2419 (ky (v := .int .i64 u2276.2) hS (y_move hS rfl) rfl rfl fun a hS => ?_)
                        refine wg hS rfl rfl rfl hb2419 (ky (v := .bool (decide ((u2276.2 : Int) ≤ u2393))) hS (y_int hS rfl rfl rfl) rfl rfl fun a hS => ?_)
                        refine wg hS rfl rfl rfl hb2419 (ky (v := .bool (decide ((u2276.2 : Int) ≤ u2393))) hS (y_move hS rfl) rfl rfl fun a hS => ?_)
                        rcases bool2 (decide ((u2276.2 : Int) ≤ u2393)) with hb2420 | hb2420
                        · replace hM := ct hb2420 hM
                          refine wn hS rfl rfl rfl hb2420 rfl rfl fun a hS => ?_
                          refine wn hS rfl rfl rfl hb2420 rfl rfl fun a hS => ?_
                          refine wn hS rfl rfl rfl hb2420 rfl rfl fun a hS => ?_
                          refine wn hS rfl rfl rfl hb2420 rfl rfl fun a hS => ?_
                          refine wnu hS rfl rfl rfl rfl rfl fun a hS => ?_
                          refine wnu hS rfl rfl rfl rfl rfl fun a hS => ?_
                          refine wnu hS rfl rfl rfl rfl rfl fun a hS => ?_
                          refine wn hS rfl rfl rfl hb2420 rfl rfl fun a hS => ?_
                          refine wg hS rfl rfl rfl hb2419 (ky (v := .bool true) hS (y_pickt hS rfl hb2420 rfl) rfl rfl fun a hS => ?_)
                          refine wg hS rfl rfl rfl hb2418 (ky (v := .bool true) hS (y_pickt hS rfl hb2419 rfl) rfl rfl fun a hS => ?_)
                          refine wl rfl (ky (v := .bool true) hS (y_pickf hS rfl hb2418 rfl) rfl rfl fun a hS => ?_)
                          refine wpList_nil ?_
                          try simp only [Exit.then, Exit.inBlock, ↓reduceIte, Nat.reduceEqDiff]
                          exact ⟨true, (hS.meet [1, 2, 3, 4] (by decide) ⟨rfl, rfl, rfl, rfl, rfl, rfl, rfl, rfl, rfl, rfl, rfl, trivial⟩ ⟨rfl, rfl, rfl, rfl, trivial⟩ ⟨⟨0, rfl⟩, ⟨1, rfl⟩, ⟨2, rfl⟩, ⟨3, rfl⟩, ⟨4, rfl⟩, trivial⟩), hM⟩
                        · replace hM := cf hb2420 hM
                          refine wg hS rfl rfl rfl hb2420 (ky (v := .int .i64 u2393) hS (y_move hS rfl) rfl rfl fun a hS => ?_)
                          refine wg hS rfl rfl rfl hb2420 (ky (v := .int .i64 u2276.1) hS (y_move hS rfl) rfl rfl fun a hS => ?_)
                          refine wg hS rfl rfl rfl hb2420 (ky (v := .bool (decide ((u2276.1 : Int) ≤ u2393))) hS (y_int hS rfl rfl rfl) rfl rfl fun a hS => ?_)
                          refine wg hS rfl rfl rfl hb2420 (ky (v := .bool (decide ((u2276.1 : Int) ≤ u2393))) hS (y_move hS rfl) rfl rfl fun a hS => ?_)
                          rcases bool2 (decide ((u2276.1 : Int) ≤ u2393)) with hb2421 | hb2421
                          · replace hM := ct hb2421 hM
                            refine wg hS rfl rfl rfl hb2421 (ky (v := .pointer (some ⟨b2273, 0 + 0, none⟩)) hS (y_fld hS rfl fl53_0) rfl rfl fun a hS => ?_)
                            refine wg hS rfl rfl rfl hb2421 (ky (v := .bool e2264.Ring) hS (y_load hS rfl ty4 4 rfl id (us := [.bool e2264.Ring]) rfl rfl (fun _ => rfl)) rfl rfl fun a hS => ?_)
                            refine wg hS rfl rfl rfl hb2421 (ky (v := .bool (!(e2264.Ring))) hS (y_not hS rfl) rfl rfl fun a hS => ?_)
                            refine wg hS rfl rfl rfl hb2420 (ky (v := .bool (!(e2264.Ring))) hS (y_pickt hS rfl hb2421 rfl) rfl rfl fun a hS => ?_)
                            refine wg hS rfl rfl rfl hb2419 (ky (v := .bool (!(e2264.Ring))) hS (y_pickf hS rfl hb2420 rfl) rfl rfl fun a hS => ?_)
                            refine wg hS rfl rfl rfl hb2418 (ky (v := .bool (!(e2264.Ring))) hS (y_pickt hS rfl hb2419 rfl) rfl rfl fun a hS => ?_)
                            refine wl rfl (ky (v := .bool (!(e2264.Ring))) hS (y_pickf hS rfl hb2418 rfl) rfl rfl fun a hS => ?_)
                            refine wpList_nil ?_
                            try simp only [Exit.then, Exit.inBlock, ↓reduceIte, Nat.reduceEqDiff]
                            exact ⟨(!(e2264.Ring)), (hS.meet [1, 2, 3, 4] (by decide) ⟨rfl, rfl, rfl, rfl, rfl, rfl, rfl, rfl, rfl, rfl, rfl, trivial⟩ ⟨rfl, rfl, rfl, rfl, trivial⟩ ⟨⟨0, rfl⟩, ⟨1, rfl⟩, ⟨2, rfl⟩, ⟨3, rfl⟩, ⟨4, rfl⟩, trivial⟩), hM⟩
                          · replace hM := cf hb2421 hM
                            refine wn hS rfl rfl rfl hb2421 rfl rfl fun a hS => ?_
                            refine wn hS rfl rfl rfl hb2421 rfl rfl fun a hS => ?_
                            refine wn hS rfl rfl rfl hb2421 rfl rfl fun a hS => ?_
                            refine wg hS rfl rfl rfl hb2420 (ky (v := .bool false) hS (y_pickf hS rfl hb2421 rfl) rfl rfl fun a hS => ?_)
                            refine wg hS rfl rfl rfl hb2419 (ky (v := .bool false) hS (y_pickf hS rfl hb2420 rfl) rfl rfl fun a hS => ?_)
                            refine wg hS rfl rfl rfl hb2418 (ky (v := .bool false) hS (y_pickt hS rfl hb2419 rfl) rfl rfl fun a hS => ?_)
                            refine wl rfl (ky (v := .bool false) hS (y_pickf hS rfl hb2418 rfl) rfl rfl fun a hS => ?_)
                            refine wpList_nil ?_
                            try simp only [Exit.then, Exit.inBlock, ↓reduceIte, Nat.reduceEqDiff]
                            exact ⟨false, (hS.meet [1, 2, 3, 4] (by decide) ⟨rfl, rfl, rfl, rfl, rfl, rfl, rfl, rfl, rfl, rfl, rfl, trivial⟩ ⟨rfl, rfl, rfl, rfl, trivial⟩ ⟨⟨0, rfl⟩, ⟨1, rfl⟩, ⟨2, rfl⟩, ⟨3, rfl⟩, ⟨4, rfl⟩, trivial⟩), hM⟩
                      · replace hM := cf hb2419 hM
                        refine wn hS rfl rfl rfl hb2419 rfl rfl fun a hS => ?_
                        refine wn hS rfl rfl rfl hb2419 rfl rfl fun a hS => ?_
                        refine wn hS rfl rfl rfl hb2419 rfl rfl fun a hS => ?_
                        refine wn hS rfl rfl rfl hb2419 rfl rfl fun a hS => ?_
                        refine wnu hS rfl rfl rfl rfl rfl fun a hS => ?_
                        refine wnu hS rfl rfl rfl rfl rfl fun a hS => ?_
                        refine wnu hS rfl rfl rfl rfl rfl fun a hS => ?_
                        refine wnu hS rfl rfl rfl rfl rfl fun a hS => ?_
                        refine wnu hS rfl rfl rfl rfl rfl fun a hS => ?_
                        refine wnu hS rfl rfl rfl rfl rfl fun a hS => ?_
                        refine wnu hS rfl rfl rfl rfl rfl fun a hS => ?_
                        refine wnu hS rfl rfl rfl rfl rfl fun a hS => ?_
                        refine wn hS rfl rfl rfl hb2419 rfl rfl fun a hS => ?_
                        refine wg hS rfl rfl rfl hb2418 (ky (v := .bool false) hS (y_pickf hS rfl hb2419 rfl) rfl rfl fun a hS => ?_)
                        refine wl rfl (ky (v := .bool false) hS (y_pickf hS rfl hb2418 rfl) rfl rfl fun a hS => ?_)
                        refine wpList_nil ?_
                        try simp only [Exit.then, Exit.inBlock, ↓reduceIte, Nat.reduceEqDiff]
                        exact ⟨false, (hS.meet [1, 2, 3, 4] (by decide) ⟨rfl, rfl, rfl, rfl, rfl, rfl, rfl, rfl, rfl, rfl, rfl, trivial⟩ ⟨rfl, rfl, rfl, rfl, trivial⟩ ⟨⟨0, rfl⟩, ⟨1, rfl⟩, ⟨2, rfl⟩, ⟨3, rfl⟩, ⟨4, rfl⟩, trivial⟩), hM⟩
                · rintro a w ⟨g2405, hS, hM⟩
                  unfold law24_ToyAsks_j3 at hM
                  rcases bool2 (g2405) with hb2406 | hb2406
                  · replace hM := ct hb2406 hM
                    refine c_t hS rfl hb2406 ?_
                    refine wp_seq_k fun K348 hK348 => ?_
                    refine r_list ?_
                    refine wl rfl (ky (v := .bool false) hS (y_assign hS rfl) rfl rfl fun a hS => ?_)
                    refine wpList_nil ?_
                    try simp only [Exit.then, Exit.inBlock, ↓reduceIte, Nat.reduceEqDiff]
                    refine hK348 _ _ ?_
                    refine wp_ret ?_
                    injection hM with hM
                    subst hM
                    have hr := hf2 _ rfl
                    subst hr
                    replace hMo2 := el_out hMo2
                    have hM := hMo2
                    injection hM with hM
                    subst hM
                    have hr := hf1 _ rfl
                    subst hr
                    replace hMo1 := el_out hMo1
                    have hM := hMo1
                    injection hM with hM
                    subst hM
                    try simp only [Exit.then, Exit.inBlock, ↓reduceIte, Nat.reduceEqDiff]
                    refine ret_ok hS Tryd.results10 (res_tmp hS rfl res_nil) ?_
                    exact rfl
                  · replace hM := cf hb2406 hM
                    refine c_f hS rfl hb2406 ?_
                    refine wp_skip ?_
                    try simp only [Exit.then, Exit.inBlock, ↓reduceIte, Nat.reduceEqDiff]
                    refine hK347 _ _ ?_
                    refine r_list ?_
                    refine wl rfl (ky (v := v2334) hS (y_move hS rfl) rfl rfl fun a hS => ?_)
                    refine wl rfl (ky (v := .pointer (some ⟨bz1097_2, 0, none⟩)) hS (y_move hS rfl) rfl rfl fun a hS => ?_)
                    refine wl rfl (k_bslice (ps := [(0, .const (.string ⟨#[48]⟩)), (1, .const (.string ⟨#[49]⟩)), (2, .const (.string ⟨#[50]⟩))]) hS el65 ze9 (zl := [.string (ByteArray.mk #[]), .string (ByteArray.mk #[]), .string (ByteArray.mk #[])]) (by kernel_rfl) rfl (us := [[.string (ByteArray.mk #[48])], [.string (ByteArray.mk #[49])], [.string (ByteArray.mk #[50])]]) ⟨rfl, ⟨rfl, ⟨rfl, trivial⟩⟩⟩ (ws := [.string (ByteArray.mk #[48]), .string (ByteArray.mk #[49]), .string (ByteArray.mk #[50])]) rfl rfl rfl rfl fun b2407 a w hk hS => ?_)
                    replace hS := hS.lit (R := Rep.str) (us := [.string (ByteArray.mk #[48]), .string (ByteArray.mk #[49]), .string (ByteArray.mk #[50])]) (xs := [(ByteArray.mk #[48]), (ByteArray.mk #[49]), (ByteArray.mk #[50])]) 0 rfl (by decide) ((RowsOk.one_ (R := Rep.str) (x := (ByteArray.mk #[48])) rfl).append ((RowsOk.one_ (R := Rep.str) (x := (ByteArray.mk #[49])) rfl).append (RowsOk.one_ (R := Rep.str) (x := (ByteArray.mk #[50])) rfl))) rfl rfl
                    replace hS := hS.freeze (R := Rep.str) 0 rfl 0 rfl
                    obtain ⟨u2409, hu2409, hM⟩ := bd hM
                    refine wl rfl (k_callm hS ci34 rfl rfl 2 rfl (dice_Word_c _ _ (hS.drop 2).dlt (DiceD.mk g2337 g2339) ([(ByteArray.mk #[48]), (ByteArray.mk #[49]), (ByteArray.mk #[50])]) _ _ _ (hS.boxRow 2 rfl) (hS.notin 2 rfl) (SlR.lent (i := 2) rfl (hS.get 4 rfl)) (SlR.lent (i := 2) rfl (hS.get 0 rfl)) _ hu2409) fun _ w hR hk => ?_)
                    obtain ⟨vz2410_4, he, hrow, hRvz2410_4⟩ := hR
                    replace he := he.symm
                    subst he
                    refine ⟨[vz2410_4, .int .i64 u2409.2.At], hrow, fun a hS => ?_⟩
                    replace hS := hS.fact (SlF (Rep.int .i64) vz2410_4 u2409.2.L) (SlR.back (i := 2) rfl hRvz2410_4)
                    refine wl rfl (k_bslice (ps := [(0, .tmp 100)]) hS el65 ze9 (zl := [.string (ByteArray.mk #[])]) (by kernel_rfl) rfl (us := [[.string u2409.1]]) ⟨rfl, trivial⟩ (ws := [.string u2409.1]) rfl rfl rfl rfl fun b2411 a w hk hS => ?_)
                    replace hS := hS.lit (R := Rep.str) (us := [.string u2409.1]) (xs := [u2409.1]) 0 rfl (by decide) (RowsOk.one_ (R := Rep.str) (x := u2409.1) rfl) rfl rfl
                    replace hS := hS.freeze (R := Rep.str) 0 rfl 0 rfl
                    obtain ⟨hg2413, hM⟩ := gd_some hM
                    refine wl rfl (k_apps (R := Rep.str) (xs := answers2333) (ys := [u2409.1]) hS el65 (by decide) (by decide) rfl rfl 1 rfl 6 rfl 0 rfl hg2413 rfl fun v2414 cl2415 a w hk hS => ?_)
                    refine wl rfl (ky (v := v2414) hS (y_assign hS rfl) rfl rfl fun a hS => ?_)
                    refine wpList_nil ?_
                    try simp only [Exit.then, Exit.inBlock, ↓reduceIte, Nat.reduceEqDiff]
                    exact ⟨((answers2333 ++ ([u2409.1])), u2409.2.L, u2409.2.At), (Option.some.inj hM).symm, (answers2333 ++ ([u2409.1])), u2409.2.L, u2409.2.At, v2414, cl2415, vz2410_4, rfl, (hS.meet [0, 1, 2, 3] (by decide) ⟨rfl, rfl, rfl, rfl, rfl, rfl, rfl, rfl, rfl, rfl, trivial⟩ ⟨rfl, rfl, rfl, rfl, trivial⟩ ⟨⟨6, rfl⟩, ⟨0, rfl⟩, ⟨3, rfl⟩, ⟨9, rfl⟩, ⟨10, rfl⟩, trivial⟩)⟩
        · rintro a w ⟨g2261, g2263, v2262, hS, hM⟩
          unfold law24_ToyAsks_j2 at hM
          refine r_list ?_
          refine wl rfl (ky (v := .int .i64 (IntKind.i64.wrap (g1876 + 1))) hS (y_int hS rfl rfl rfl) rfl rfl fun a hS => ?_)
          refine wl rfl (ky (v := .int .i64 (IntKind.i64.wrap (g1876 + 1))) hS (y_move hS rfl) rfl rfl fun a hS => ?_)
          refine wpList_nil ?_
          try simp only [Exit.then, Exit.inBlock, ↓reduceIte, Nat.reduceEqDiff]
          exact ⟨(IntKind.i64.wrap (g1876 + 1), g2261, g2263), (Option.some.inj hM).symm, (IntKind.i64.wrap (g1876 + 1)), g2261, g2263, v2262, rfl, (hS.meet [0, 1] (by decide) ⟨rfl, rfl, rfl, rfl, rfl, trivial⟩ ⟨rfl, rfl, trivial⟩ ⟨⟨0, rfl⟩, ⟨1, rfl⟩, ⟨2, rfl⟩, trivial⟩)⟩
      · replace hM := cf hb2136 hM
        refine c_f hS rfl hb2136 ?_
        refine wp_exit ?_
        try simp only [Exit.then, Exit.inBlock, ↓reduceIte, Nat.reduceEqDiff]
        injection hM with hM
        subst hM
        have hr := hf1 _ rfl
        subst hr
        replace hMo1 := el_go hMo1
        have hM : law24_ToyAsks_j1 = some y := hMo1
        exact ⟨(hS.meet [] (by decide) trivial trivial ⟨⟨2, rfl⟩, trivial⟩), hM⟩
    · rintro a w ⟨hS, hM⟩
      unfold law24_ToyAsks_j1 at hM
      refine wp_seq_k fun K233 hK233 => ?_
      refine r_list ?_
      obtain ⟨u1618, hu1618, hM⟩ := bd hM
      refine wl rfl (k_call hS ci27 rfl rfl (law24_awake_c _ _ hS.dlt (hS.get 0 rfl) _ hu1618) fun _ w hR a hk hA => ?_)
      have he := Eq.symm hR
      subst he
      have hS := hA [] (fun r hr => by cases hr) List.Pairwise.nil
      refine wl rfl (ky (v := .bool u1618) hS (y_assign hS rfl) rfl rfl fun a hS => ?_)
      refine wpList_nil ?_
      try simp only [Exit.then, Exit.inBlock, ↓reduceIte, Nat.reduceEqDiff]
      refine hK233 _ _ ?_
      refine wp_ret ?_
      injection hM with hM
      subst hM
      try simp only [Exit.then, Exit.inBlock, ↓reduceIte, Nat.reduceEqDiff]
      refine ret_ok hS Tryd.results10 (res_tmp hS rfl res_nil) ?_
      exact rfl
end Go.Proofs.YtappkgmbdoiocaaDoor
