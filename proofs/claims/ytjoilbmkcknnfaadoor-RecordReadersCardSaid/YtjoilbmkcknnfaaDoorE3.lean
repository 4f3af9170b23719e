/- What functions of the program compute; that they do. -/
import Derived.Test.YtjoilbmkcknnfaaDoorTE3
import Derived.Test.YtjoilbmkcknnfaaDoorD1
import Derived.Test.YtjoilbmkcknnfaaDoorE1
import Derived.Test.YtjoilbmkcknnfaaDoorE2
set_option linter.unusedVariables false
set_option linter.unusedSimpArgs false
namespace Go.Proofs.YtjoilbmkcknnfaaDoor
open Go.RowKit
noncomputable def law26_RecordPuts_j1 (g332 : Bool) : Option Bool := some (g332)
noncomputable def law26_RecordPuts (t_0 : (List Int)) (k_1 : KeyD) : Option Bool := (mill_Light t_0).bind fun u199 => cond (!(u199)) ((law26_awake).bind fun u202 => some (u202)) ((mill_Roll t_0).bind fun u204 => (law26_some u204).bind fun u207 => (law26_one (DiceD.mk u207.2.L u207.2.At)).bind fun u210 => (record_Put u207.1 (RecordD.mk (KeyD.mk u210.1.Key.Kind u210.1.Key.Text) u210.1.Value u210.1.Reads u210.1.Changed u210.1.Verified u210.1.Cost u210.1.Dirty)).bind fun u362 => (ref26_Put u207.1 (RecordD.mk (KeyD.mk u210.1.Key.Kind u210.1.Key.Text) u210.1.Value u210.1.Reads u210.1.Changed u210.1.Verified u210.1.Cost u210.1.Dirty)).bind fun u365 => (ref26_Same u362 u365).bind fun u368 => cond u368 ((record_Drop u207.1 (KeyD.mk u210.1.Key.Kind u210.1.Key.Text)).bind fun u371 => (ref26_Drop u207.1 (KeyD.mk u210.1.Key.Kind u210.1.Key.Text)).bind fun u374 => (ref26_Same u371 u374).bind fun u377 => cond u377 ((record_Drop u207.1 k_1).bind fun u380 => (ref26_Drop u207.1 k_1).bind fun u383 => (ref26_Same u380 u383).bind fun u386 => cond u386 ((law26_awake).bind fun u389 => law26_RecordPuts_j1 u389) (law26_RecordPuts_j1 false)) (law26_RecordPuts_j1 false)) (law26_RecordPuts_j1 false))
set_option maxRecDepth 100000 in
set_option maxHeartbeats 4000000 in
theorem law26_RecordPuts_c (T : Nat → Prop) (W0 : World) (hT : ∀ k, T k → k < W0.heap.size) (hLv : LvP T W0) (t_0 : (List Int)) (k_1 : KeyD) (v1 : Value) (hv1 : SlR (Rep.int .i64) T W0 v1 t_0) (y : Bool) (hM : law26_RecordPuts t_0 k_1 = some y) : Rets Tryd.prog No 7 [v1, .agg #[.int .i64 k_1.Kind, .string k_1.Text]] W0 (fun v w' => v = .bool y) := by
  refine enter (c := _) Tryd.func7 rfl T 48 Tryd.ntmps7 hT rfl fun a hS => ?_
  replace hS := hS.fact LvF (LvP.dn hLv)
  replace hS := hS.fact (SlF (Rep.int .i64) v1 t_0) (SlR.dn hv1)
  unfold law26_RecordPuts at hM
  refine wp_seq_k fun K8 hK8 => ?_
  refine r_list ?_
  refine wl rfl (k_box hS rfl (cs := [.int .i64 k_1.Kind, .string k_1.Text]) rfl rfl fun b196 hnb198 a w hk hS => ?_)
  refine wl rfl (ky (v := .bool false) hS (y_assign hS rfl) rfl rfl fun a hS => ?_)
  refine wpList_nil ?_
  try simp only [Exit.then, Exit.inBlock, ↓reduceIte, Nat.reduceEqDiff]
  refine hK8 _ _ ?_
  refine wp_seq_k fun K9 hK9 => ?_
  refine wp_seq_k fun K10 hK10 => ?_
  refine r_list ?_
  refine wl rfl (ky (v := v1) hS (y_move hS rfl) rfl rfl fun a hS => ?_)
  obtain ⟨u199, hu199, hM⟩ := bd hM
  refine wl rfl (k_call hS ci13 rfl rfl (mill_Light_c _ _ hS.dlt t_0 _ (hS.get 0 rfl) _ hu199) fun _ w hR a hk hA => ?_)
  have he := Eq.symm hR
  subst he
  have hS := hA [] (fun r hr => by cases hr) List.Pairwise.nil
  refine wl rfl (ky (v := .bool (!(u199))) hS (y_not hS rfl) rfl rfl fun a hS => ?_)
  refine wpList_nil ?_
  try simp only [Exit.then, Exit.inBlock, ↓reduceIte, Nat.reduceEqDiff]
  refine hK10 _ _ ?_
  rcases bool2 (!(u199)) with hb201 | hb201
  · replace hM := ct hb201 hM
    refine c_t hS rfl hb201 ?_
    refine wp_seq_k fun K11 hK11 => ?_
    refine r_list ?_
    obtain ⟨u202, hu202, hM⟩ := bd hM
    refine wl rfl (k_call hS ci33 rfl rfl (law26_awake_c _ _ hS.dlt (hS.get 1 rfl) _ hu202) fun _ w hR a hk hA => ?_)
    have he := Eq.symm hR
    subst he
    have hS := hA [] (fun r hr => by cases hr) List.Pairwise.nil
    refine wl rfl (ky (v := .bool u202) hS (y_assign hS rfl) rfl rfl fun a hS => ?_)
    refine wpList_nil ?_
    try simp only [Exit.then, Exit.inBlock, ↓reduceIte, Nat.reduceEqDiff]
    refine hK11 _ _ ?_
    refine wp_ret ?_
    injection hM with hM
    subst hM
    try simp only [Exit.then, Exit.inBlock, ↓reduceIte, Nat.reduceEqDiff]
    refine ret_ok hS Tryd.results7 (res_tmp hS rfl res_nil) ?_
    exact rfl
  · replace hM := cf hb201 hM
    refine c_f hS rfl hb201 ?_
    refine wp_skip ?_
    try simp only [Exit.then, Exit.inBlock, ↓reduceIte, Nat.reduceEqDiff]
    refine hK9 _ _ ?_
    refine wp_seq_k fun K12 hK12 => ?_
    refine r_list ?_
    refine wl rfl (ky (v := v1) hS (y_move hS rfl) rfl rfl fun a hS => ?_)
    obtain ⟨u204, hu204, hM⟩ := bd hM
    refine wl rfl (k_call hS ci34 rfl rfl (mill_Roll_c _ _ hS.dlt t_0 _ (hS.get 0 rfl) _ hu204) fun _ w hR a hk hA => ?_)
    obtain ⟨bz205_2, vz205_3, he, hFbz205_2, hObz205_2, hRvz205_3⟩ := hR
    replace he := he.symm
    subst he
    have hS := hA [.box bz205_2 [vz205_3, .int .i64 u204.At] 98] (adds1 hObz205_2 (fun k hk => by simp only [Res.dom, Option.some.injEq] at hk; omega)) (pw1 _)
    replace hS := hS.fact (SlF (Rep.int .i64) vz205_3 u204.L) (hRvz205_3.sub (dT_dT _))
    refine wl rfl (ky (v := .pointer (some ⟨bz205_2, 0, none⟩)) hS (y_assign hS rfl) rfl rfl fun a hS => ?_)
    refine wpList_nil ?_
    try simp only [Exit.then, Exit.inBlock, ↓reduceIte, Nat.reduceEqDiff]
    refine hK12 _ _ ?_
    refine wp_seq_k fun K13 hK13 => ?_
    refine r_list ?_
    refine wl rfl (ky (v := .pointer (some ⟨bz205_2, 0, none⟩)) hS (y_move hS rfl) rfl rfl fun a hS => ?_)
    obtain ⟨u207, hu207, hM⟩ := bd hM
    refine wl rfl (k_callmr hS ci35 rfl rfl 0 rfl (law26_some_c _ _ (hS.drop 0).dlt u204 _ _ (hS.boxRow 0 rfl) (hS.notin 0 rfl) (SlR.lent (i := 0) rfl (hS.get 0 rfl)) (LvF.keep (hS.get 2 rfl) (Kt.refl _ _) (fun k hk => .inl ((dT_in (i := 0) rfl k).1 hk))) _ hu207) fun _ w hR hk => ?_)
    obtain ⟨vz208_3, clz208_4, vz208_5, he, ⟨hOvz208_3, hFvz208_3, hRvz208_3⟩, hrow, hRvz208_5⟩ := hR
    replace he := he.symm
    subst he
    refine ⟨[vz208_5, .int .i64 u207.2.At], [.own vz208_3 54 R_RecordD.size clz208_4], hrow, adds1 ⟨hOvz208_3, by decide⟩ hFvz208_3, pw1 _, fun a hS => ?_⟩
    replace hS := hS.fact (RowsF R_RecordD clz208_4 u207.1) (hRvz208_3.keep (Kt.refl _ _) (Nw.back2 (i := 0) rfl [.own vz208_3 54 R_RecordD.size clz208_4] _))
    replace hS := hS.fact (SlF (Rep.int .i64) vz208_5 u207.2.L) (hRvz208_5.sub (Nw.back2 (i := 0) rfl [.own vz208_3 54 R_RecordD.size clz208_4] _))
    refine wl rfl (ky (v := vz208_3) hS (y_assign hS rfl) rfl rfl fun a hS => ?_)
    refine wpList_nil ?_
    try simp only [Exit.then, Exit.inBlock, ↓reduceIte, Nat.reduceEqDiff]
    refine hK13 _ _ ?_
    refine wp_seq_k fun K14 hK14 => ?_
    refine r_list ?_
    refine wl rfl (ky (v := .pointer (some ⟨bz205_2, 0, none⟩)) hS (y_move hS rfl) rfl rfl fun a hS => ?_)
    obtain ⟨u210, hu210, hM⟩ := bd hM
    refine wl rfl (k_callmr hS ci36 rfl rfl 1 rfl (law26_one_c _ _ (hS.drop 1).dlt (DiceD.mk u207.2.L u207.2.At) _ _ (hS.boxRow 1 rfl) (hS.notin 1 rfl) (SlR.lent (i := 1) rfl (hS.get 0 rfl)) (LvF.keep (hS.get 4 rfl) (Kt.refl _ _) (fun k hk => .inl ((dT_in (i := 1) rfl k).1 hk))) _ hu210) fun _ w hR hk => ?_)
    obtain ⟨vz211_3, clz211_4, vz211_5, he, ⟨hOvz211_3, hFvz211_3, hRvz211_3⟩, hrow, hRvz211_5⟩ := hR
    replace he := he.symm
    subst he
    refine ⟨[vz211_5, .int .i64 u210.2.At], [.own vz211_3 28 R_KeyD.size clz211_4], hrow, adds1 ⟨hOvz211_3, by decide⟩ hFvz211_3, pw1 _, fun a hS => ?_⟩
    replace hS := hS.fact (RowsF R_KeyD clz211_4 u210.1.Reads) (hRvz211_3.keep (Kt.refl _ _) (Nw.back2 (i := 1) rfl [.own vz211_3 28 R_KeyD.size clz211_4] _))
    replace hS := hS.fact (SlF (Rep.int .i64) vz211_5 u210.2.L) (hRvz211_5.sub (Nw.back2 (i := 1) rfl [.own vz211_3 28 R_KeyD.size clz211_4] _))
    refine wl rfl (k_alloc hS ze54 rfl fun b213 hnb215 a w hk hS => ?_)
    refine wl rfl (k_store hS rfl rfl (us := [.int .i64 u210.1.Key.Kind, .string u210.1.Key.Text, .string u210.1.Value, vz211_3, .int .i64 u210.1.Changed, .int .i64 u210.1.Verified, .int .i64 u210.1.Cost, .bool u210.1.Dirty]) rfl ty54 0 rfl rfl rfl (oc rfl (oc rfl (oc rfl (oc (own_one (hS.own _ (List.mem_of_getElem? (i := 1) rfl)).1) (oc rfl (oc rfl (oc rfl (oc rfl on)))))))) fun w hk hS => ?_)
    refine wpList_nil ?_
    try simp only [Exit.then, Exit.inBlock, ↓reduceIte, Nat.reduceEqDiff]
    refine hK14 _ _ ?_
    refine seq_j (J := fun a w => ∃ (g332 : Bool), St W0 No T 48 [(4, .bool g332)] [] [LvF] a w ∧ law26_RecordPuts_j1 g332 = some y) ?_ ?_
    · skip
      refine draws [] hS mixed rfl (fun c a d v w h => by cases d <;> exact h) fun w hQ hS => ?_
      refine dy 0 (v := vz208_3) rfl (by kernel_rfl) (by kernel_rfl) (by kernel_rfl) rfl hQ hS (y_move hS rfl) rfl rfl rfl fun a hS => ?_
      refine dy (l := []) 1 (v := .agg #[.int .i64 u210.1.Key.Kind, .string u210.1.Key.Text, .string u210.1.Value, vz211_3, .int .i64 u210.1.Changed, .int .i64 u210.1.Verified, .int .i64 u210.1.Cost, .bool u210.1.Dirty]) rfl (by kernel_rfl) (by kernel_rfl) (by kernel_rfl) (by kernel_rfl) hQ hS (y_load hS rfl ty54 0 rfl eo_nil (us := [.int .i64 u210.1.Key.Kind, .string u210.1.Key.Text, .string u210.1.Value, vz211_3, .int .i64 u210.1.Changed, .int .i64 u210.1.Verified, .int .i64 u210.1.Cost, .bool u210.1.Dirty]) rfl rfl (fun h => by cases h)) rfl rfl rfl fun a hS => ?_
      refine dy 3 (v := vz208_3) rfl (by kernel_rfl) (by kernel_rfl) (by kernel_rfl) rfl hQ hS (y_move hS rfl) rfl rfl rfl fun a hS => ?_
      refine dy (l := []) 4 (v := .agg #[.int .i64 u210.1.Key.Kind, .string u210.1.Key.Text, .string u210.1.Value, vz211_3, .int .i64 u210.1.Changed, .int .i64 u210.1.Verified, .int .i64 u210.1.Cost, .bool u210.1.Dirty]) rfl (by kernel_rfl) (by kernel_rfl) (by kernel_rfl) (by kernel_rfl) hQ hS (y_load hS rfl ty54 0 rfl eo_nil (us := [.int .i64 u210.1.Key.Kind, .string u210.1.Key.Text, .string u210.1.Value, vz211_3, .int .i64 u210.1.Changed, .int .i64 u210.1.Verified, .int .i64 u210.1.Cost, .bool u210.1.Dirty]) rfl rfl (fun h => by cases h)) rfl rfl rfl fun a hS => ?_
      replace hS := hS.freeze (R := R_RecordD) 2 rfl 3 rfl
      replace hS := hS.freeze (R := R_KeyD) 1 rfl 2 rfl
      obtain ⟨u362, hu362, hM⟩ := bd hM
      refine wpE_one (i := 2) rfl (by kernel_rfl) rfl (k_call hS ci38 rfl rfl (record_Put_c _ _ hS.dlt (hS.get 8 rfl) u207.1 (RecordD.mk (KeyD.mk u210.1.Key.Kind u210.1.Key.Text) u210.1.Value u210.1.Reads u210.1.Changed u210.1.Verified u210.1.Cost u210.1.Dirty) _ _ (hS.get 1 rfl) (hS.get 0 rfl) _ hu362) fun _ w hR a hk hA => ⟨stN (hk), ?_⟩)
      obtain ⟨vz363_3, clz363_4, he, ⟨hOvz363_3, hFvz363_3, hRvz363_3⟩⟩ := hR
      replace he := he.symm
      subst he
      have hS := hA [.own vz363_3 54 R_RecordD.size clz363_4] (adds1 ⟨hOvz363_3, by decide⟩ hFvz363_3) (pw1 _)
      replace hS := hS.fact (RowsF R_RecordD clz363_4 u362) (hRvz363_3.keep (Kt.refl _ _) (dT_dT _))
      obtain ⟨u365, hu365, hM⟩ := bd hM
      refine wpE_one (i := 5) rfl (by kernel_rfl) rfl (k_call hS ci39 rfl rfl (ref26_Put_c _ _ hS.dlt (hS.get 9 rfl) u207.1 (RecordD.mk (KeyD.mk u210.1.Key.Kind u210.1.Key.Text) u210.1.Value u210.1.Reads u210.1.Changed u210.1.Verified u210.1.Cost u210.1.Dirty) _ _ (hS.get 2 rfl) (hS.get 1 rfl) _ hu365) fun _ w hR a hk hA => ⟨stN (hk), ?_⟩)
      obtain ⟨vz366_3, clz366_4, he, ⟨hOvz366_3, hFvz366_3, hRvz366_3⟩⟩ := hR
      replace he := he.symm
      subst he
      have hS := hA [.own vz366_3 54 R_RecordD.size clz366_4] (adds1 ⟨hOvz366_3, by decide⟩ hFvz366_3) (pw1 _)
      replace hS := hS.fact (RowsF R_RecordD clz366_4 u365) (hRvz366_3.keep (Kt.refl _ _) (dT_dT _))
      have hL := hS
      replace hL := hL.freeze (R := R_RecordD) 1 rfl 1 rfl
      replace hL := hL.freeze (R := R_RecordD) 0 rfl 1 rfl
      obtain ⟨u368, hu368, hM⟩ := bd hM
      refine wpE_one (i := 6) rfl (by kernel_rfl) rfl (k_call hS ci37 rfl rfl (ref26_Same_c _ _ hL.dlt u362 u365 _ _ (hL.get 1 rfl) (hL.get 0 rfl) _ hu368) fun _ w hR a hk hA => ⟨stN (hk), ?_⟩)
      have he := Eq.symm hR
      subst he
      have hS := hA [] (fun r hr => by cases hr) List.Pairwise.nil
      refine dy 7 (v := .bool u368) rfl (by kernel_rfl) (by kernel_rfl) (by kernel_rfl) rfl hQ hS (y_move hS rfl) rfl rfl rfl fun a hS => ?_
      rcases bool2 (u368) with hb370 | hb370
      · replace hM := ct hb370 hM
        refine dyg 8 (v := vz208_3) rfl (by kernel_rfl) (by kernel_rfl) (by kernel_rfl) rfl hQ hS (y_move hS rfl) rfl rfl rfl hb370 rfl rfl fun a hS => ?_
        refine dyg 9 (v := .pointer (some ⟨b213, 0 + 0, none⟩)) rfl (by kernel_rfl) (by kernel_rfl) (by kernel_rfl) rfl hQ hS (y_fld hS rfl fl54_0) rfl rfl rfl hb370 rfl rfl fun a hS => ?_
        refine dyg (l := []) 10 (v := .agg #[.int .i64 u210.1.Key.Kind, .string u210.1.Key.Text]) rfl (by kernel_rfl) (by kernel_rfl) (by kernel_rfl) (by kernel_rfl) hQ hS (y_load hS rfl ty28 2 rfl eo_nil (us := [.int .i64 u210.1.Key.Kind, .string u210.1.Key.Text]) rfl rfl (fun h => by cases h)) rfl rfl rfl hb370 rfl rfl fun a hS => ?_
        refine dyg 12 (v := vz208_3) rfl (by kernel_rfl) (by kernel_rfl) (by kernel_rfl) rfl hQ hS (y_move hS rfl) rfl rfl rfl hb370 rfl rfl fun a hS => ?_
        refine dyg 13 (v := .pointer (some ⟨b213, 0 + 0, none⟩)) rfl (by kernel_rfl) (by kernel_rfl) (by kernel_rfl) rfl hQ hS (y_fld hS rfl fl54_0) rfl rfl rfl hb370 rfl rfl fun a hS => ?_
        refine dyg (l := []) 14 (v := .agg #[.int .i64 u210.1.Key.Kind, .string u210.1.Key.Text]) rfl (by kernel_rfl) (by kernel_rfl) (by kernel_rfl) (by kernel_rfl) hQ hS (y_load hS rfl ty28 2 rfl eo_nil (us := [.int .i64 u210.1.Key.Kind, .string u210.1.Key.Text]) rfl rfl (fun h => by cases h)) rfl rfl rfl hb370 rfl rfl fun a hS => ?_
        obtain ⟨u371, hu371, hM⟩ := bd hM
        refine wpE_oneg (i := 11) rfl (by kernel_rfl) hS rfl rfl rfl hb370 (k_call hS ci40 rfl rfl (record_Drop_c _ _ hS.dlt (hS.get 10 rfl) u207.1 (KeyD.mk u210.1.Key.Kind u210.1.Key.Text) _ (hS.get 3 rfl) _ hu371) fun _ w hR a hk hA => ⟨stN (hk), ?_⟩)
        obtain ⟨vz372_2, clz372_3, he, ⟨hOvz372_2, hFvz372_2, hRvz372_2⟩⟩ := hR
        replace he := he.symm
        subst he
        have hS := hA [.own vz372_2 54 R_RecordD.size clz372_3] (adds1 ⟨hOvz372_2, by decide⟩ hFvz372_2) (pw1 _)
        replace hS := hS.fact (RowsF R_RecordD clz372_3 u371) (hRvz372_2.keep (Kt.refl _ _) (dT_dT _))
        obtain ⟨u374, hu374, hM⟩ := bd hM
        refine wpE_oneg (i := 15) rfl (by kernel_rfl) hS rfl rfl rfl hb370 (k_call hS ci41 rfl rfl (ref26_Drop_c _ _ hS.dlt u207.1 (KeyD.mk u210.1.Key.Kind u210.1.Key.Text) _ (hS.get 4 rfl) _ hu374) fun _ w hR a hk hA => ⟨stN (hk), ?_⟩)
        obtain ⟨vz375_2, clz375_3, he, ⟨hOvz375_2, hFvz375_2, hRvz375_2⟩⟩ := hR
        replace he := he.symm
        subst he
        have hS := hA [.own vz375_2 54 R_RecordD.size clz375_3] (adds1 ⟨hOvz375_2, by decide⟩ hFvz375_2) (pw1 _)
        replace hS := hS.fact (RowsF R_RecordD clz375_3 u374) (hRvz375_2.keep (Kt.refl _ _) (dT_dT _))
        have hL := hS
        replace hL := hL.freeze (R := R_RecordD) 1 rfl 1 rfl
        replace hL := hL.freeze (R := R_RecordD) 0 rfl 1 rfl
        obtain ⟨u377, hu377, hM⟩ := bd hM
        refine wpE_oneg (i := 16) rfl (by kernel_rfl) hS rfl rfl rfl hb370 (k_call hS ci37 rfl rfl (ref26_Same_c _ _ hL.dlt u371 u374 _ _ (hL.get 1 rfl) (hL.get 0 rfl) _ hu377) fun _ w hR a hk hA => ⟨stN (hk), ?_⟩)
        have he := Eq.symm hR
        subst he
        have hS := hA [] (fun r hr => by cases hr) List.Pairwise.nil
        refine dy 17 (v := .bool u377) rfl (by kernel_rfl) (by kernel_rfl) (by kernel_rfl) rfl hQ hS (y_pickt hS rfl hb370 rfl) rfl rfl rfl fun a hS => ?_
        refine dy 18 (v := .bool u377) rfl (by kernel_rfl) (by kernel_rfl) (by kernel_rfl) rfl hQ hS (y_move hS rfl) rfl rfl rfl fun a hS => ?_
        rcases bool2 (u377) with hb379 | hb379
        · replace hM := ct hb379 hM
          refine dyg 19 (v := vz208_3) rfl (by kernel_rfl) (by kernel_rfl) (by kernel_rfl) rfl hQ hS (y_move hS rfl) rfl rfl rfl hb379 rfl rfl fun a hS => ?_
          refine dyg (l := []) 20 (v := .agg #[.int .i64 k_1.Kind, .string k_1.Text]) rfl (by kernel_rfl) (by kernel_rfl) (by kernel_rfl) (by kernel_rfl) hQ hS (y_load hS rfl ty28 6 rfl eo_nil (us := [.int .i64 k_1.Kind, .string k_1.Text]) rfl rfl (fun h => by cases h)) rfl rfl rfl hb379 rfl rfl fun a hS => ?_
          refine dyg 22 (v := vz208_3) rfl (by kernel_rfl) (by kernel_rfl) (by kernel_rfl) rfl hQ hS (y_move hS rfl) rfl rfl rfl hb379 rfl rfl fun a hS => ?_
          refine dyg (l := []) 23 (v := .agg #[.int .i64 k_1.Kind, .string k_1.Text]) rfl (by kernel_rfl) (by kernel_rfl) (by kernel_rfl) (by kernel_rfl) hQ hS (y_load hS rfl ty28 6 rfl eo_nil (us := [.int .i64 k_1.Kind, .string k_1.Text]) rfl rfl (fun h => by cases h)) rfl rfl rfl hb379 rfl rfl fun a hS => ?_
          obtain ⟨u380, hu380, hM⟩ := bd hM
          refine wpE_oneg (i := 21) rfl (by kernel_rfl) hS rfl rfl rfl hb379 (k_call hS ci40 rfl rfl (record_Drop_c _ _ hS.dlt (hS.get 12 rfl) u207.1 k_1 _ (hS.get 5 rfl) _ hu380) fun _ w hR a hk hA => ⟨stN (hk), ?_⟩)
          obtain ⟨vz381_2, clz381_3, he, ⟨hOvz381_2, hFvz381_2, hRvz381_2⟩⟩ := hR
          replace he := he.symm
          subst he
          have hS := hA [.own vz381_2 54 R_RecordD.size clz381_3] (adds1 ⟨hOvz381_2, by decide⟩ hFvz381_2) (pw1 _)
          replace hS := hS.fact (RowsF R_RecordD clz381_3 u380) (hRvz381_2.keep (Kt.refl _ _) (dT_dT _))
          obtain ⟨u383, hu383, hM⟩ := bd hM
          refine wpE_oneg (i := 24) rfl (by kernel_rfl) hS rfl rfl rfl hb379 (k_call hS ci41 rfl rfl (ref26_Drop_c _ _ hS.dlt u207.1 k_1 _ (hS.get 6 rfl) _ hu383) fun _ w hR a hk hA => ⟨stN (hk), ?_⟩)
          obtain ⟨vz384_2, clz384_3, he, ⟨hOvz384_2, hFvz384_2, hRvz384_2⟩⟩ := hR
          replace he := he.symm
          subst he
          have hS := hA [.own vz384_2 54 R_RecordD.size clz384_3] (adds1 ⟨hOvz384_2, by decide⟩ hFvz384_2) (pw1 _)
          replace hS := hS.fact (RowsF R_RecordD clz384_3 u383) (hRvz384_2.keep (Kt.refl _ _) (dT_dT _))
          have hL := hS
          replace hL := hL.freeze (R := R_RecordD) 1 rfl 1 rfl
          replace hL := hL.freeze (R := R_RecordD) 0 rfl 1 rfl
          obtain ⟨u386, hu386, hM⟩ := bd hM
          refine wpE_oneg (i := 25) rfl (by kernel_rfl) hS rfl rfl rfl hb379 (k_call hS ci37 rfl rfl (ref26_Same_c _ _ hL.dlt u380 u383 _ _ (hL.get 1 rfl) (hL.get 0 rfl) _ hu386) fun _ w hR a hk hA => ⟨stN (hk), ?_⟩)
          have he := Eq.symm hR
          subst he
          have hS := hA [] (fun r hr => by cases hr) List.Pairwise.nil
          refine dy 26 (v := .bool u386) rfl (by kernel_rfl) (by kernel_rfl) (by kernel_rfl) rfl hQ hS (y_pickt hS rfl hb379 rfl) rfl rfl rfl fun a hS => ?_
          refine dy 27 (v := .bool u386) rfl (by kernel_rfl) (by kernel_rfl) (by kernel_rfl) rfl hQ hS (y_move hS rfl) rfl rfl rfl fun a hS => ?_
          rcases bool2 (u386) with hb388 | hb388
          · replace hM := ct hb388 hM
            obtain ⟨u389, hu389, hM⟩ := bd hM
            refine wpE_oneg (i := 28) rfl (by kernel_rfl) hS rfl rfl rfl hb388 (k_call hS ci33 rfl rfl (law26_awake_c _ _ hS.dlt (hS.get 14 rfl) _ hu389) fun _ w hR a hk hA => ⟨stN (hk), ?_⟩)
            have he := Eq.symm hR
            subst he
            have hS := hA [] (fun r hr => by cases hr) List.Pairwise.nil
            refine dy 29 (v := .bool u389) rfl (by kernel_rfl) (by kernel_rfl) (by kernel_rfl) rfl hQ hS (y_pickt hS rfl hb388 rfl) rfl rfl rfl fun a hS => ?_
            refine dy 30 (v := .bool u389) rfl (by kernel_rfl) (by kernel_rfl) (by kernel_rfl) rfl hQ hS (y_assign hS rfl) rfl rfl rfl fun a hS => ?_
            refine wpE_done (by kernel_rfl) ?_ _
            try simp only [Exit.then, Exit.inBlock, ↓reduceIte, Nat.reduceEqDiff]
            exact ⟨u389, (hS.meet [] (by decide) ⟨rfl, trivial⟩ trivial ⟨⟨14, rfl⟩, trivial⟩), hM⟩
          · replace hM := cf hb388 hM
            refine dyn 28 rfl (by kernel_rfl) (by kernel_rfl) (by kernel_rfl) hQ hS rfl rfl rfl hb388 rfl rfl fun a hS => ?_
            refine dy 29 (v := .bool false) rfl (by kernel_rfl) (by kernel_rfl) (by kernel_rfl) rfl hQ hS (y_pickf hS rfl hb388 rfl) rfl rfl rfl fun a hS => ?_
            refine dy 30 (v := .bool false) rfl (by kernel_rfl) (by kernel_rfl) (by kernel_rfl) rfl hQ hS (y_assign hS rfl) rfl rfl rfl fun a hS => ?_
            refine wpE_done (by kernel_rfl) ?_ _
            try simp only [Exit.then, Exit.inBlock, ↓reduceIte, Nat.reduceEqDiff]
            exact ⟨false, (hS.meet [] (by decide) ⟨rfl, trivial⟩ trivial ⟨⟨14, rfl⟩, trivial⟩), hM⟩
        · replace hM := cf hb379 hM
          refine dyn 19 rfl (by kernel_rfl) (by kernel_rfl) (by kernel_rfl) hQ hS rfl rfl rfl hb379 rfl rfl fun a hS => ?_
          refine dyn 20 rfl (by kernel_rfl) (by kernel_rfl) (by kernel_rfl) hQ hS rfl rfl rfl hb379 rfl rfl fun a hS => ?_
          refine dyn 21 rfl (by kernel_rfl) (by kernel_rfl) (by kernel_rfl) hQ hS rfl rfl rfl hb379 rfl rfl fun a hS => ?_
          refine dyn 22 rfl (by kernel_rfl) (by kernel_rfl) (by kernel_rfl) hQ hS rfl rfl rfl hb379 rfl rfl fun a hS => ?_
          refine dyn 23 rfl (by kernel_rfl) (by kernel_rfl) (by kernel_rfl) hQ hS rfl rfl rfl hb379 rfl rfl fun a hS => ?_
          refine dyn 24 rfl (by kernel_rfl) (by kernel_rfl) (by kernel_rfl) hQ hS rfl rfl rfl hb379 rfl rfl fun a hS => ?_
          refine dyn 25 rfl (by kernel_rfl) (by kernel_rfl) (by kernel_rfl) hQ hS rfl rfl rfl hb379 rfl rfl fun a hS => ?_
          refine dy 26 (v := .bool false) rfl (by kernel_rfl) (by kernel_rfl) (by kernel_rfl) rfl hQ hS (y_pickf hS rfl hb379 rfl) rfl rfl rfl fun a hS => ?_
          refine dy 27 (v := .bool false) rfl (by kernel_rfl) (by kernel_rfl) (by kernel_rfl) rfl hQ hS (y_move hS rfl) rfl rfl rfl fun a hS => ?_
          refine dyn 28 rfl (by kernel_rfl) (by kernel_rfl) (by kernel_rfl) hQ hS rfl rfl rfl rfl rfl rfl fun a hS => ?_
          refine dy 29 (v := .bool false) rfl (by kernel_rfl) (by kernel_rfl) (by kernel_rfl) rfl hQ hS (y_pickf hS rfl rfl rfl) rfl rfl rfl fun a hS => ?_
          refine dy 30 (v := .bool false) rfl (by kernel_rfl) (by kernel_rfl) (by kernel_rfl) rfl hQ hS (y_assign hS rfl) rfl rfl rfl fun a hS => ?_
          refine wpE_done (by kernel_rfl) ?_ _
          try simp only [Exit.then, Exit.inBlock, ↓reduceIte, Nat.reduceEqDiff]
          exact ⟨false, (hS.meet [] (by decide) ⟨rfl, trivial⟩ trivial ⟨⟨12, rfl⟩, trivial⟩), hM⟩
      · replace hM := cf hb370 hM
        refine dyn 8 rfl (by kernel_rfl) (by kernel_rfl) (by kernel_rfl) hQ hS rfl rfl rfl hb370 rfl rfl fun a hS => ?_
        refine dyn 9 rfl (by kernel_rfl) (by kernel_rfl) (by kernel_rfl) hQ hS rfl rfl rfl hb370 rfl rfl fun a hS => ?_
        refine dyn 10 rfl (by kernel_rfl) (by kernel_rfl) (by kernel_rfl) hQ hS rfl rfl rfl hb370 rfl rfl fun a hS => ?_
        refine dyn 11 rfl (by kernel_rfl) (by kernel_rfl) (by kernel_rfl) hQ hS rfl rfl rfl hb370 rfl rfl fun a hS => ?_
        refine dyn 12 rfl (by kernel_rfl) (by kernel_rfl) (by kernel_rfl) hQ hS rfl rfl rfl hb370 rfl rfl fun a hS => ?_
        refine dyn 13 rfl (by kernel_rfl) (by kernel_rfl) (by kernel_rfl) hQ hS rfl rfl rfl hb370 rfl rfl fun a hS => ?_
        refine dyn 14 rfl (by kernel_rfl) (by kernel_rfl) (by kernel_rfl) hQ hS rfl rfl rfl hb370 rfl rfl fun a hS => ?_
        refine dyn 15 rfl (by kernel_rfl) (by kernel_rfl) (by kernel_rfl) hQ hS rfl rfl rfl hb370 rfl rfl fun a hS => ?_
        refine dyn 16 rfl (by kernel_rfl) (by kernel_rfl) (by kernel_rfl) hQ hS rfl rfl rfl hb370 rfl rfl fun a hS => ?_
        refine dy 17 (v := .bool false) rfl (by kernel_rfl) (by kernel_rfl) (by kernel_rfl) rfl hQ hS (y_pickf hS rfl hb370 rfl) rfl rfl rfl fun a hS => ?_
        refine dy 18 (v := .bool false) rfl (by kernel_rfl) (by kernel_rfl) (by kernel_rfl) rfl hQ hS (y_move hS rfl) rfl rfl rfl fun a hS => ?_
        refine dyn 19 rfl (by kernel_rfl) (by kernel_rfl) (by kernel_rfl) hQ hS rfl rfl rfl rfl rfl rfl fun a hS => ?_
        refine dyn 20 rfl (by kernel_rfl) (by kernel_rfl) (by kernel_rfl) hQ hS rfl rfl rfl rfl rfl rfl fun a hS => ?_
        refine dyn 21 rfl (by kernel_rfl) (by kernel_rfl) (by kernel_rfl) hQ hS rfl rfl rfl rfl rfl rfl fun a hS => ?_
        refine dyn 22 rfl (by kernel_rfl) (by kernel_rfl) (by kernel_rfl) hQ hS rfl rfl rfl rfl rfl rfl fun a hS => ?_
        refine dyn 23 rfl (by kernel_rfl) (by kernel_rfl) (by kernel_rfl) hQ hS rfl rfl rfl rfl rfl rfl fun a hS => ?_
        refine dyn 24 rfl (by kernel_rfl) (by kernel_rfl) (by kernel_rfl) hQ hS rfl rfl rfl rfl rfl rfl fun a hS => ?_
        refine dyn 25 rfl (by kernel_rfl) (by kernel_rfl) (by kernel_rfl) hQ hS rfl rfl rfl rfl rfl rfl fun a hS => ?_
        refine dy 26 (v := .bool false) rfl (by kernel_rfl) (by kernel_rfl) (by kernel_rfl) rfl hQ hS (y_pickf hS rfl rfl rfl) rfl rfl rfl fun a hS => ?_
        refine dy 27 (v := .bool false) rfl (by kernel_rfl) (by kernel_rfl) (by kernel_rfl) rfl hQ hS (y_move hS rfl) rfl rfl rfl fun a hS => ?_
        refine dyn 28 rfl (by kernel_rfl) (by kernel_rfl) (by kernel_rfl) hQ hS rfl rfl rfl rfl rfl rfl fun a hS => ?_
        refine dy 29 (v := .bool false) rfl (by kernel_rfl) (by kernel_rfl) (by kernel_rfl) rfl hQ hS (y_pickf hS rfl rfl rfl) rfl rfl rfl fun a hS => ?_
        refine dy 30 (v := .bool false) rfl (by kernel_rfl) (by kernel_rfl) (by kernel_rfl) rfl hQ hS (y_assign hS rfl) rfl rfl rfl fun a hS => ?_
        refine wpE_done (by kernel_rfl) ?_ _
        try simp only [Exit.then, Exit.inBlock, ↓reduceIte, Nat.reduceEqDiff]
        exact ⟨false, (hS.meet [] (by decide) ⟨rfl, trivial⟩ trivial ⟨⟨10, rfl⟩, trivial⟩), hM⟩
    · rintro a w ⟨g332, hS, hM⟩
      unfold law26_RecordPuts_j1 at hM
      refine wp_ret ?_
      injection hM with hM
      subst hM
      try simp only [Exit.then, Exit.inBlock, ↓reduceIte, Nat.reduceEqDiff]
      refine ret_ok hS Tryd.results7 (res_tmp hS rfl res_nil) ?_
      exact rfl
end Go.Proofs.YtjoilbmkcknnfaaDoor
