/- What functions of the program compute; that they do. -/
import Derived.Test.YthpeklnhkkadjaaDoorMT
import Derived.Test.YthpeklnhkkadjaaDoorD1
set_option linter.unusedVariables false
set_option linter.unusedSimpArgs false
namespace Go.Proofs.YthpeklnhkkadjaaDoor
open Go.RowKit
noncomputable def clone_key (s_0 : (List KeyD)) : Option (List KeyD) := gd (roomB (([] : List KeyD).length + s_0.length)) <| some ((([] : List KeyD) ++ s_0))
set_option maxRecDepth 100000 in
set_option maxHeartbeats 4000000 in
theorem clone_key_c (T : Nat → Prop) (W0 : World) (hT : ∀ k, T k → k < W0.heap.size) (s_0 : (List KeyD)) (v1 : Value) (hv1 : SlR R_KeyD T W0 v1 s_0) (y : (List KeyD)) (hM : clone_key s_0 = some y) : Rets Tryd.prog No 58 [v1] W0 (fun v w' => ∃ (v2 : Value) (cl3 : List Value), v = v2 ∧ OwnR R_KeyD T W0 w' [.own v2 26 R_KeyD.size cl3] 26 v2 cl3 y) := by
  refine enter (c := _) Tryd.func58 rfl T 8 Tryd.ntmps58 hT rfl fun a hS => ?_
  replace hS := hS.fact (SlF R_KeyD v1 s_0) (SlR.dn hv1)
  unfold clone_key at hM
  refine wp_seq_k fun K6 hK6 => ?_
  refine r_list ?_
  refine wl rfl (ky (v := .slice none 0 0) hS (y_assign hS rfl) rfl rfl fun a hS => ?_)
  refine wpList_nil ?_
  try simp only [Exit.then, Exit.inBlock, ↓reduceIte, Nat.reduceEqDiff]
  refine hK6 _ _ ?_
  refine wp_seq_k fun K7 hK7 => ?_
  refine wp_seq_k fun K8 hK8 => ?_
  refine r_list ?_
  refine wl rfl (ky (v := v1) hS (y_move hS rfl) rfl rfl fun a hS => ?_)
  obtain ⟨bn12, hbn13, hy14, hy15⟩ := y_slnil (R := R_KeyD) hS sl22 0 rfl
  refine wl rfl (ky (v := .bool bn12) hS (hy14 rfl) rfl rfl fun a hS => ?_)
  refine wpList_nil ?_
  try simp only [Exit.then, Exit.inBlock, ↓reduceIte, Nat.reduceEqDiff]
  refine hK8 _ _ ?_
  rcases bool2 (bn12) with hb16 | hb16
  · rw [hbn13 hb16] at hM
    have hM : some ([]) = some y := hM
    refine c_t hS rfl hb16 ?_
    refine wp_seq_k fun K9 hK9 => ?_
    refine r_list ?_
    refine wl rfl (ky (v := .slice none 0 0) hS (y_assign hS rfl) rfl rfl fun a hS => ?_)
    refine wpList_nil ?_
    try simp only [Exit.then, Exit.inBlock, ↓reduceIte, Nat.reduceEqDiff]
    refine hK9 _ _ ?_
    refine wp_ret ?_
    injection hM with hM
    subst hM
    try simp only [Exit.then, Exit.inBlock, ↓reduceIte, Nat.reduceEqDiff]
    refine ret_ok hS Tryd.results58 (res_tmp hS rfl res_nil) ?_
    exact ⟨.slice none 0 0, [], rfl, ret_nil _ _ _ _ _ _⟩
  · skip
    refine c_f hS rfl hb16 ?_
    refine wp_skip ?_
    try simp only [Exit.then, Exit.inBlock, ↓reduceIte, Nat.reduceEqDiff]
    refine hK7 _ _ ?_
    refine wp_seq_k fun K10 hK10 => ?_
    refine r_list ?_
    refine wl rfl (k_bslice0 R_KeyD hS el22 rfl fun v17 a w hk hS => ?_)
    refine wl rfl (ky (v := v1) hS (y_move hS rfl) rfl rfl fun a hS => ?_)
    obtain ⟨hg19, hM⟩ := gd_some hM
    refine wl rfl (k_apps (R := R_KeyD) (xs := ([] : List KeyD)) (ys := s_0) hS el22 (by decide) (by decide) rfl rfl 0 rfl 0 rfl 1 rfl hg19 rfl fun v20 cl21 a w hk hS => ?_)
    refine wl rfl (ky (v := v20) hS (y_assign hS rfl) rfl rfl fun a hS => ?_)
    refine wpList_nil ?_
    try simp only [Exit.then, Exit.inBlock, ↓reduceIte, Nat.reduceEqDiff]
    refine hK10 _ _ ?_
    refine wp_ret ?_
    injection hM with hM
    subst hM
    try simp only [Exit.then, Exit.inBlock, ↓reduceIte, Nat.reduceEqDiff]
    refine ret_ok hS Tryd.results58 (res_tmp hS rfl res_nil) ?_
    exact ⟨v20, cl21, rfl, hS.retOwn ⟨.inr (List.mem_of_getElem? (i := 0) rfl), trivial⟩ 0 rfl 0 rfl⟩

noncomputable def deque_owned (d_0 : DequeD) : Option DequeD := (clone_key d_0.Keys).bind fun u16 => some ((DequeD.mk u16))
set_option maxRecDepth 100000 in
set_option maxHeartbeats 4000000 in
theorem deque_owned_c (T : Nat → Prop) (W0 : World) (hT : ∀ k, T k → k < W0.heap.size) (d_0 : DequeD) (v1 : Value) (hv1 : SlR R_KeyD T W0 v1 d_0.Keys) (y : DequeD) (hM : deque_owned d_0 = some y) : Rets Tryd.prog No 52 [.agg #[v1]] W0 (fun v w' => ∃ (v2 : Value) (cl3 : List Value), v = .agg #[v2] ∧ OwnR R_KeyD T W0 w' [.own v2 26 R_KeyD.size cl3] 26 v2 cl3 y.Keys) := by
  refine enter (c := _) Tryd.func52 rfl T 7 Tryd.ntmps52 hT rfl fun a hS => ?_
  replace hS := hS.fact (SlF R_KeyD v1 d_0.Keys) (SlR.dn hv1)
  unfold deque_owned at hM
  refine wp_seq_k fun K3 hK3 => ?_
  refine r_list ?_
  refine wl rfl (k_box hS rfl (cs := [v1]) rfl rfl fun b10 hnb12 a w hk hS => ?_)
  refine wl rfl (k_alloc hS ze24 rfl fun b13 hnb15 a w hk hS => ?_)
  refine wpList_nil ?_
  try simp only [Exit.then, Exit.inBlock, ↓reduceIte, Nat.reduceEqDiff]
  refine hK3 _ _ ?_
  refine wp_seq_k fun K4 hK4 => ?_
  refine r_list ?_
  refine wl rfl (ky (v := .pointer (some ⟨b10, 0 + 0, none⟩)) hS (y_fld hS rfl fl24_0) rfl rfl fun a hS => ?_)
  refine wl rfl (ky (v := v1) hS (y_load hS rfl ty22 1 rfl id (us := [v1]) rfl rfl (fun _ => rfl)) rfl rfl fun a hS => ?_)
  obtain ⟨u16, hu16, hM⟩ := bd hM
  refine wl rfl (k_call hS ci58 rfl rfl (clone_key_c _ _ hS.dlt d_0.Keys _ (hS.get 0 rfl) _ hu16) fun _ w hR a hk hA => ?_)
  obtain ⟨vz17_2, clz17_3, he, ⟨hOvz17_2, hFvz17_2, hRvz17_2⟩⟩ := hR
  replace he := he.symm
  subst he
  have hS := hA [.own vz17_2 26 R_KeyD.size clz17_3] (adds1 ⟨hOvz17_2, by decide⟩ hFvz17_2) (pw1 _)
  replace hS := hS.fact (RowsF R_KeyD clz17_3 u16) (hRvz17_2.keep (Kt.refl _ _) (dT_dT _))
  refine wl rfl (ky (v := .agg #[vz17_2]) hS (y_build (ps := [(0, .tmp 5)]) hS pl24 ze24 rfl (us := [[vz17_2]]) ⟨(cells1 (own_one (hS.own _ (List.mem_of_getElem? (i := 0) rfl)).1)), trivial⟩ (ws := [vz17_2]) rfl) rfl rfl fun a hS => ?_)
  refine wl rfl (k_store hS rfl rfl (us := [vz17_2]) rfl ty24 1 rfl rfl rfl (oc (own_one (hS.own _ (List.mem_of_getElem? (i := 0) rfl)).1) on) fun w hk hS => ?_)
  refine wpList_nil ?_
  try simp only [Exit.then, Exit.inBlock, ↓reduceIte, Nat.reduceEqDiff]
  refine hK4 _ _ ?_
  refine wp_ret ?_
  injection hM with hM
  subst hM
  try simp only [Exit.then, Exit.inBlock, ↓reduceIte, Nat.reduceEqDiff]
  refine ret_ok hS Tryd.results52 (res_cell hS rfl 1 rfl ty24 rfl (fun h => by cases h) res_nil) ?_
  exact ⟨vz17_2, clz17_3, rfl, hS.retOwn ⟨.inr (List.mem_of_getElem? (i := 0) rfl), trivial⟩ 0 rfl 0 rfl⟩

noncomputable def deque_Push (d_0 : DequeD) (k_1 : KeyD) : Option (DequeD × Int) := (deque_owned d_0).bind fun u35 => (key_Valid k_1).bind fun u41 => cond (!(u41)) (some ((u35, 40))) (cond (decide ((64 : Int) ≤ (d_0.Keys.length : Int))) (some ((u35, 45))) (gd (roomB (u35.Keys.length + ([k_1]).length)) <| some (((DequeD.mk (u35.Keys ++ ([k_1]))), 0))))
set_option maxRecDepth 100000 in
set_option maxHeartbeats 4000000 in
theorem deque_Push_c (T : Nat → Prop) (W0 : World) (hT : ∀ k, T k → k < W0.heap.size) (hLv : LvP T W0) (d_0 : DequeD) (k_1 : KeyD) (v1 : Value) (hv1 : SlR R_KeyD T W0 v1 d_0.Keys) (y : DequeD × Int) (hM : deque_Push d_0 k_1 = some y) : Rets Tryd.prog No 15 [.agg #[v1], .agg #[.int .i64 k_1.Kind, .string k_1.Text]] W0 (fun v w' => ∃ (v2 : Value) (cl3 : List Value), v = .tuple #[.agg #[v2], .int .i64 y.2] ∧ OwnR R_KeyD T W0 w' [.own v2 26 R_KeyD.size cl3] 26 v2 cl3 y.1.Keys) := by
  refine enter (c := _) Tryd.func15 rfl T 27 Tryd.ntmps15 hT rfl fun a hS => ?_
  replace hS := hS.fact LvF (LvP.dn hLv)
  replace hS := hS.fact (SlF R_KeyD v1 d_0.Keys) (SlR.dn hv1)
  unfold deque_Push at hM
  refine wp_seq_k fun K10 hK10 => ?_
  refine r_list ?_
  refine wl rfl (k_box hS rfl (cs := [v1]) rfl rfl fun b26 hnb28 a w hk hS => ?_)
  refine wl rfl (k_box hS rfl (cs := [.int .i64 k_1.Kind, .string k_1.Text]) rfl rfl fun b29 hnb31 a w hk hS => ?_)
  refine wl rfl (k_alloc hS ze24 rfl fun b32 hnb34 a w hk hS => ?_)
  refine wl rfl (ky (v := .int .i64 0) hS (y_assign hS rfl) rfl rfl fun a hS => ?_)
  refine wpList_nil ?_
  try simp only [Exit.then, Exit.inBlock, ↓reduceIte, Nat.reduceEqDiff]
  refine hK10 _ _ ?_
  refine wp_seq_k fun K11 hK11 => ?_
  refine r_list ?_
  refine wl rfl (ky (v := .agg #[v1]) hS (y_load hS rfl ty24 2 rfl id (us := [v1]) rfl rfl (fun h => by cases h)) rfl rfl fun a hS => ?_)
  obtain ⟨u35, hu35, hM⟩ := bd hM
  refine wl rfl (k_call hS ci52 rfl rfl (deque_owned_c _ _ hS.dlt d_0 _ (hS.get 0 rfl) _ hu35) fun _ w hR a hk hA => ?_)
  obtain ⟨vz36_2, clz36_3, he, ⟨hOvz36_2, hFvz36_2, hRvz36_2⟩⟩ := hR
  replace he := he.symm
  subst he
  have hS := hA [.own vz36_2 26 R_KeyD.size clz36_3] (adds1 ⟨hOvz36_2, by decide⟩ hFvz36_2) (pw1 _)
  replace hS := hS.fact (RowsF R_KeyD clz36_3 u35.Keys) (hRvz36_2.keep (Kt.refl _ _) (dT_dT _))
  refine wl rfl (k_alloc hS ze24 rfl fun b38 hnb40 a w hk hS => ?_)
  refine wl rfl (k_store hS rfl rfl (us := [vz36_2]) rfl ty24 0 rfl rfl rfl (oc (own_one (hS.own _ (List.mem_of_getElem? (i := 1) rfl)).1) on) fun w hk hS => ?_)
  refine wpList_nil ?_
  try simp only [Exit.then, Exit.inBlock, ↓reduceIte, Nat.reduceEqDiff]
  refine hK11 _ _ ?_
  refine wp_seq_k fun K12 hK12 => ?_
  refine wp_block ?_
  refine wp_seq_k fun K13 hK13 => ?_
  refine r_list ?_
  refine wl rfl (ky (v := .agg #[.int .i64 k_1.Kind, .string k_1.Text]) hS (y_load hS rfl ty26 3 rfl id (us := [.int .i64 k_1.Kind, .string k_1.Text]) rfl rfl (fun h => by cases h)) rfl rfl fun a hS => ?_)
  obtain ⟨u41, hu41, hM⟩ := bd hM
  refine wl rfl (k_call hS ci53 rfl rfl (key_Valid_c _ _ hS.dlt (hS.get 2 rfl) k_1 _ hu41) fun _ w hR a hk hA => ?_)
  have he := Eq.symm hR
  subst he
  have hS := hA [] (fun r hr => by cases hr) List.Pairwise.nil
  refine wl rfl (ky (v := .bool (!(u41))) hS (y_not hS rfl) rfl rfl fun a hS => ?_)
  refine wl rfl (ky (v := .bool (!(u41))) hS (y_assign hS rfl) rfl rfl fun a hS => ?_)
  refine wpList_nil ?_
  try simp only [Exit.then, Exit.inBlock, ↓reduceIte, Nat.reduceEqDiff]
  refine hK13 _ _ ?_
  rcases bool2 (!(u41)) with hb43 | hb43
  · replace hM := ct hb43 hM
    refine c_t hS rfl hb43 ?_
    refine wp_seq_k fun K14 hK14 => ?_
    refine r_list ?_
    refine wl rfl (ky (v := .agg #[vz36_2]) hS (y_load hS rfl ty24 0 rfl id (us := [vz36_2]) rfl rfl (fun h => by cases h)) rfl rfl fun a hS => ?_)
    refine wl rfl (k_store hS rfl rfl (us := [vz36_2]) rfl ty24 2 rfl rfl rfl (oc (own_one (hS.own _ (List.mem_of_getElem? (i := 1) rfl)).1) on) fun w hk hS => ?_)
    refine wl rfl (ky (v := .int .i64 40) hS (y_assign hS rfl) rfl rfl fun a hS => ?_)
    refine wpList_nil ?_
    try simp only [Exit.then, Exit.inBlock, ↓reduceIte, Nat.reduceEqDiff]
    refine hK14 _ _ ?_
    refine wp_ret ?_
    injection hM with hM
    subst hM
    try simp only [Exit.then, Exit.inBlock, ↓reduceIte, Nat.reduceEqDiff]
    refine ret_ok hS Tryd.results15 (res_cell hS rfl 2 rfl ty24 rfl (fun h => by cases h) (res_tmp hS rfl res_nil)) ?_
    exact ⟨vz36_2, clz36_3, rfl, hS.retOwn ⟨.inr (List.mem_of_getElem? (i := 1) rfl), trivial⟩ 1 rfl 0 rfl⟩
  · replace hM := cf hb43 hM
    refine c_f hS rfl hb43 ?_
    refine wp_seq_k fun K15 hK15 => ?_
    refine r_list ?_
    refine wl rfl (ky (v := .pointer (some ⟨b26, 0 + 0, none⟩)) hS (y_fld hS rfl fl24_0) rfl rfl fun a hS => ?_)
    refine wl rfl (ky (v := v1) hS (y_load hS rfl ty22 4 rfl id (us := [v1]) rfl rfl (fun _ => rfl)) rfl rfl fun a hS => ?_)
    refine wl rfl (ky (v := .int .i64 (d_0.Keys.length : Int)) hS (y_len (R := R_KeyD) (xs := d_0.Keys) hS sl22 rfl 1 rfl) rfl rfl fun a hS => ?_)
    refine wl rfl (ky (v := .bool (decide ((64 : Int) ≤ (d_0.Keys.length : Int)))) hS (y_int hS rfl rfl rfl) rfl rfl fun a hS => ?_)
    refine wl rfl (ky (v := .bool (decide ((64 : Int) ≤ (d_0.Keys.length : Int)))) hS (y_assign hS rfl) rfl rfl fun a hS => ?_)
    refine wpList_nil ?_
    try simp only [Exit.then, Exit.inBlock, ↓reduceIte, Nat.reduceEqDiff]
    refine hK15 _ _ ?_
    rcases bool2 (decide ((64 : Int) ≤ (d_0.Keys.length : Int))) with hb44 | hb44
    · replace hM := ct hb44 hM
      refine c_t hS rfl hb44 ?_
      refine wp_seq_k fun K16 hK16 => ?_
      refine r_list ?_
      refine wl rfl (ky (v := .agg #[vz36_2]) hS (y_load hS rfl ty24 0 rfl id (us := [vz36_2]) rfl rfl (fun h => by cases h)) rfl rfl fun a hS => ?_)
      refine wl rfl (k_store hS rfl rfl (us := [vz36_2]) rfl ty24 2 rfl rfl rfl (oc (own_one (hS.own _ (List.mem_of_getElem? (i := 1) rfl)).1) on) fun w hk hS => ?_)
      refine wl rfl (ky (v := .int .i64 45) hS (y_assign hS rfl) rfl rfl fun a hS => ?_)
      refine wpList_nil ?_
      try simp only [Exit.then, Exit.inBlock, ↓reduceIte, Nat.reduceEqDiff]
      refine hK16 _ _ ?_
      refine wp_ret ?_
      injection hM with hM
      subst hM
      try simp only [Exit.then, Exit.inBlock, ↓reduceIte, Nat.reduceEqDiff]
      refine ret_ok hS Tryd.results15 (res_cell hS rfl 2 rfl ty24 rfl (fun h => by cases h) (res_tmp hS rfl res_nil)) ?_
      exact ⟨vz36_2, clz36_3, rfl, hS.retOwn ⟨.inr (List.mem_of_getElem? (i := 1) rfl), trivial⟩ 1 rfl 0 rfl⟩
    · replace hM := cf hb44 hM
      refine c_f hS rfl hb44 ?_
      refine wp_skip ?_
      try simp only [Exit.then, Exit.inBlock, ↓reduceIte, Nat.reduceEqDiff]
      refine hK12 _ _ ?_
      refine wp_seq_k fun K17 hK17 => ?_
      refine r_list ?_
      refine wl rfl (ky (v := .pointer (some ⟨b38, 0 + 0, none⟩)) hS (y_fld hS rfl fl24_0) rfl rfl fun a hS => ?_)
      refine wl rfl (ky (v := vz36_2) hS (y_load hS rfl ty22 0 rfl id (us := [vz36_2]) rfl rfl (fun _ => rfl)) rfl rfl fun a hS => ?_)
      refine wl rfl (ky (v := .agg #[.int .i64 k_1.Kind, .string k_1.Text]) hS (y_load hS rfl ty26 3 rfl id (us := [.int .i64 k_1.Kind, .string k_1.Text]) rfl rfl (fun h => by cases h)) rfl rfl fun a hS => ?_)
      refine wl rfl (k_bslice (ps := [(0, .tmp 22)]) hS el22 ze26 (zl := [.int .i64 0, .string (ByteArray.mk #[])]) (by kernel_rfl) rfl (us := [[.int .i64 k_1.Kind, .string k_1.Text]]) ⟨rfl, trivial⟩ (ws := [.int .i64 k_1.Kind, .string k_1.Text]) rfl rfl rfl rfl fun b45 a w hk hS => ?_)
      replace hS := hS.lit (R := R_KeyD) (us := [.int .i64 k_1.Kind, .string k_1.Text]) (xs := [k_1]) 0 rfl (by decide) (RowsOk.one_ (R := R_KeyD) (x := k_1) rfl) rfl rfl
      replace hS := hS.freeze (R := R_KeyD) 0 rfl 0 rfl
      obtain ⟨hg47, hM⟩ := gd_some hM
      refine wl rfl (k_apps (R := R_KeyD) (xs := u35.Keys) (ys := [k_1]) hS el22 (by decide) (by decide) rfl rfl 1 rfl 2 rfl 0 rfl hg47 rfl fun v48 cl49 a w hk hS => ?_)
      refine wl rfl (ky (v := .pointer (some ⟨b38, 0 + 0, none⟩)) hS (y_fld hS rfl fl24_0) rfl rfl fun a hS => ?_)
      refine wl rfl (k_store hS rfl rfl (us := [v48]) (cells1 (own_one (hS.own _ (List.mem_of_getElem? (i := 1) rfl)).1)) ty22 0 rfl rfl rfl (oc (own_one (hS.own _ (List.mem_of_getElem? (i := 1) rfl)).1) on) fun w hk hS => ?_)
      refine wpList_nil ?_
      try simp only [Exit.then, Exit.inBlock, ↓reduceIte, Nat.reduceEqDiff]
      refine hK17 _ _ ?_
      refine wp_seq_k fun K18 hK18 => ?_
      refine r_list ?_
      refine wl rfl (ky (v := .agg #[v48]) hS (y_load hS rfl ty24 0 rfl id (us := [v48]) rfl rfl (fun h => by cases h)) rfl rfl fun a hS => ?_)
      refine wl rfl (k_store hS rfl rfl (us := [v48]) rfl ty24 2 rfl rfl rfl (oc (own_one (hS.own _ (List.mem_of_getElem? (i := 1) rfl)).1) on) fun w hk hS => ?_)
      refine wl rfl (ky (v := .int .i64 0) hS (y_assign hS rfl) rfl rfl fun a hS => ?_)
      refine wpList_nil ?_
      try simp only [Exit.then, Exit.inBlock, ↓reduceIte, Nat.reduceEqDiff]
      refine hK18 _ _ ?_
      refine wp_ret ?_
      injection hM with hM
      subst hM
      try simp only [Exit.then, Exit.inBlock, ↓reduceIte, Nat.reduceEqDiff]
      refine ret_ok hS Tryd.results15 (res_cell hS rfl 2 rfl ty24 rfl (fun h => by cases h) (res_tmp hS rfl res_nil)) ?_
      exact ⟨v48, cl49, rfl, hS.retOwn ⟨.inr (List.mem_of_getElem? (i := 1) rfl), trivial⟩ 1 rfl 0 rfl⟩

noncomputable def indexf_key_j1 : Option Int := some ((-1))
noncomputable def indexf_key_l2 (s_0 : (List KeyD)) (f_1 : KeyD → Option Bool) (g47 : Int) (g48 : Int) : Option (Fl (Int × Int) (Fl (Unit) Int)) := cond (decide ((g48 : Int) < g47)) ((getI s_0 g48).bind fun e62 => (f_1 e62).bind fun u68 => cond u68 (some (.out (.out g48))) (some (.go (g47, IntKind.i64.wrap (g48 + 1))))) (some (.out (.go ())))
noncomputable def indexf_key (f_1 : KeyD → Option Bool) (s_0 : (List KeyD)) : Option Int := (loop (fun s : Int × Int => indexf_key_l2 s_0 f_1 s.1 s.2) ((s_0.length : Int), 0)).bind fun r => Fl.el r (fun s => indexf_key_j1) (fun y => some (y))
set_option maxRecDepth 100000 in
set_option maxHeartbeats 4000000 in
theorem indexf_key_c (T : Nat → Prop) (W0 : World) (hT : ∀ k, T k → k < W0.heap.size) (hLv : LvP T W0) (f_1g : Nat) (hcf_1 : callI Tryd.prog f_1g = true) (f_1k : List Value) (f_1P : Fact) (f_1 : KeyD → Option Bool) (hf_1 : ∀ (T : Nat → Prop) (W0 : World) (hT : ∀ k, T k → k < W0.heap.size) (hLv : LvP T W0) (hP : f_1P.p T W0) (x0 : KeyD) (y : Bool) (hM : f_1 x0 = some y), Rets Tryd.prog No f_1g ([.agg #[.int .i64 x0.Kind, .string x0.Text]] ++ f_1k) W0 (fun v w' => v = .bool y)) (hPf_1 : f_1P.p T W0) (s_0 : (List KeyD)) (v1 : Value) (hv1 : SlR R_KeyD T W0 v1 s_0) (y : Int) (hM : indexf_key f_1 s_0 = some y) : Rets Tryd.prog No 86 [v1, .func (.func f_1g) #[] f_1k.toArray] W0 (fun v w' => v = .int .i64 y) := by
  refine enter (c := _) Tryd.func86 rfl T 19 Tryd.ntmps86 hT rfl fun a hS => ?_
  replace hS := hS.fact f_1P (Fact.dn _ hPf_1)
  replace hS := hS.fact LvF (LvP.dn hLv)
  replace hS := hS.fact (SlF R_KeyD v1 s_0) (SlR.dn hv1)
  unfold indexf_key at hM
  refine wp_seq_k fun K17 hK17 => ?_
  refine r_list ?_
  refine wl rfl (ky (v := .int .i64 0) hS (y_assign hS rfl) rfl rfl fun a hS => ?_)
  refine wpList_nil ?_
  try simp only [Exit.then, Exit.inBlock, ↓reduceIte, Nat.reduceEqDiff]
  refine hK17 _ _ ?_
  refine seq_j (J := fun a w => St W0 No T 19 [] [] [LvF, f_1P] a w ∧ indexf_key_j1 = some y) ?_ ?_
  · skip
    refine wp_seq_k fun K26 hK26 => ?_
    refine r_list ?_
    refine wl rfl (ky (v := v1) hS (y_move hS rfl) rfl rfl fun a hS => ?_)
    refine wl rfl (ky (v := .int .i64 (s_0.length : Int)) hS (y_len (R := R_KeyD) (xs := s_0) hS sl22 rfl 0 rfl) rfl rfl fun a hS => ?_)
    refine wl rfl (ky (v := .int .i64 0) hS (y_move hS rfl) rfl rfl fun a hS => ?_)
    refine wpList_nil ?_
    try simp only [Exit.then, Exit.inBlock, ↓reduceIte, Nat.reduceEqDiff]
    refine hK26 _ _ ?_
    refine wp_block ?_
    obtain ⟨r1, hl1, hMo1⟩ := bd hM
    refine wp_lp (fun s : Int × Int => indexf_key_l2 s_0 f_1 s.1 s.2) (fun s a w => ∃ (g47 : Int) (g48 : Int), (g47, g48) = s ∧ St W0 No T 19 [(0, v1), (1, .func (.func f_1g) #[] f_1k.toArray), (7, .int .i64 g47), (8, .int .i64 g48)] [] [SlF R_KeyD v1 s_0, LvF, f_1P] a w) hl1 ⟨(s_0.length : Int), 0, rfl, (hS.meet [] (by decide) ⟨rfl, rfl, rfl, rfl, trivial⟩ trivial ⟨⟨0, rfl⟩, ⟨1, rfl⟩, ⟨2, rfl⟩, trivial⟩)⟩ ?_
    rintro s a w f1 ⟨g47, g48, rfl, hS⟩ hM hf1
    have hM : indexf_key_l2 s_0 f_1 g47 g48 = some f1 := hM
    unfold indexf_key_l2 at hM
    refine wp_seq_k fun K33 hK33 => ?_
    refine r_list ?_
    refine wl rfl (ky (v := .bool (decide ((g48 : Int) < g47))) hS (y_int hS rfl rfl rfl) rfl rfl fun a hS => ?_)
    refine wpList_nil ?_
    try simp only [Exit.then, Exit.inBlock, ↓reduceIte, Nat.reduceEqDiff]
    refine hK33 _ _ ?_
    refine wp_seq_k fun K34 hK34 => ?_
    rcases bool2 (decide ((g48 : Int) < g47)) with hb61 | hb61
    · replace hM := ct hb61 hM
      refine c_t hS rfl hb61 ?_
      refine wp_skip ?_
      try simp only [Exit.then, Exit.inBlock, ↓reduceIte, Nat.reduceEqDiff]
      refine hK34 _ _ ?_
      refine wp_seq_k fun K35 hK35 => ?_
      refine wp_block ?_
      refine wp_seq_k fun K36 hK36 => ?_
      refine r_list ?_
      refine wl rfl (ky (v := .int .i64 g48) hS (y_move hS rfl) rfl rfl fun a hS => ?_)
      refine wl rfl (ky (v := .int .i64 g48) hS (y_assign hS rfl) rfl rfl fun a hS => ?_)
      refine wpList_nil ?_
      try simp only [Exit.then, Exit.inBlock, ↓reduceIte, Nat.reduceEqDiff]
      refine hK36 _ _ ?_
      refine wp_seq_k fun K37 hK37 => ?_
      refine r_list ?_
      refine wl rfl (ky (v := .func (.func f_1g) #[] f_1k.toArray) hS (y_move hS rfl) rfl rfl fun a hS => ?_)
      refine wl rfl (ky (v := v1) hS (y_move hS rfl) rfl rfl fun a hS => ?_)
      refine wl rfl (ky (v := .int .i64 g48) hS (y_move hS rfl) rfl rfl fun a hS => ?_)
      obtain ⟨e62, he62, hM⟩ := bd hM
      refine wl rfl (k_index (R := R_KeyD) hS sl22 ty26 rfl rfl 0 rfl he62 rfl fun b63 o64 cs66 hr65 a hS => ?_)
      obtain rfl := hr65
      refine wl rfl (ky (v := .agg #[.int .i64 e62.Kind, .string e62.Text]) hS (y_loadc (k := 0) hS ty26 0 rfl rfl (fun _ h => h.elim) (us := [.int .i64 e62.Kind, .string e62.Text]) rfl rfl (fun h => by cases h)) rfl rfl fun a hS => ?_)
      obtain ⟨u68, hu68, hM⟩ := bd hM
      refine wl rfl (k_callv (cap := f_1k) hS rfl hcf_1 rfl rfl (hf_1 _ _ hS.dlt (hS.get 2 rfl) (hS.get 3 rfl) e62 _ hu68) fun _ w hR a hk hA => ?_)
      have he := Eq.symm hR
      subst he
      have hS := hA [] (fun r hr => by cases hr) List.Pairwise.nil
      refine wpList_nil ?_
      try simp only [Exit.then, Exit.inBlock, ↓reduceIte, Nat.reduceEqDiff]
      refine hK37 _ _ ?_
      rcases bool2 (u68) with hb70 | hb70
      · replace hM := ct hb70 hM
        refine c_t hS rfl hb70 ?_
        refine wp_seq_k fun K38 hK38 => ?_
        refine r_list ?_
        refine wl rfl (ky (v := .int .i64 g48) hS (y_move hS rfl) rfl rfl fun a hS => ?_)
        refine wl rfl (ky (v := .int .i64 g48) hS (y_assign hS rfl) rfl rfl fun a hS => ?_)
        refine wpList_nil ?_
        try simp only [Exit.then, Exit.inBlock, ↓reduceIte, Nat.reduceEqDiff]
        refine hK38 _ _ ?_
        refine wp_ret ?_
        injection hM with hM
        subst hM
        have hr := hf1 _ rfl
        subst hr
        replace hMo1 := el_out hMo1
        have hM := hMo1
        injection hM with hM
        subst hM
        try simp only [Exit.then, Exit.inBlock, ↓reduceIte, Nat.reduceEqDiff]
        refine ret_ok hS Tryd.results86 (res_tmp hS rfl res_nil) ?_
        exact rfl
      · replace hM := cf hb70 hM
        refine c_f hS rfl hb70 ?_
        refine wp_skip ?_
        try simp only [Exit.then, Exit.inBlock, ↓reduceIte, Nat.reduceEqDiff]
        refine hK35 _ _ ?_
        refine r_list ?_
        refine wl rfl (ky (v := .int .i64 (IntKind.i64.wrap (g48 + 1))) hS (y_int hS rfl rfl rfl) rfl rfl fun a hS => ?_)
        refine wl rfl (ky (v := .int .i64 (IntKind.i64.wrap (g48 + 1))) hS (y_move hS rfl) rfl rfl fun a hS => ?_)
        refine wpList_nil ?_
        try simp only [Exit.then, Exit.inBlock, ↓reduceIte, Nat.reduceEqDiff]
        exact ⟨(g47, IntKind.i64.wrap (g48 + 1)), (Option.some.inj hM).symm, g47, (IntKind.i64.wrap (g48 + 1)), rfl, (hS.meet [] (by decide) ⟨rfl, rfl, rfl, rfl, trivial⟩ trivial ⟨⟨1, rfl⟩, ⟨2, rfl⟩, ⟨3, rfl⟩, trivial⟩)⟩
    · replace hM := cf hb61 hM
      refine c_f hS rfl hb61 ?_
      refine wp_exit ?_
      try simp only [Exit.then, Exit.inBlock, ↓reduceIte, Nat.reduceEqDiff]
      injection hM with hM
      subst hM
      have hr := hf1 _ rfl
      subst hr
      replace hMo1 := el_go hMo1
      have hM : indexf_key_j1 = some y := hMo1
      exact ⟨(hS.meet [] (by decide) trivial trivial ⟨⟨1, rfl⟩, ⟨2, rfl⟩, trivial⟩), hM⟩
  · rintro a w ⟨hS, hM⟩
    unfold indexf_key_j1 at hM
    refine wp_seq_k fun K25 hK25 => ?_
    refine r_list ?_
    refine wl rfl (ky (v := .int .i64 (-1)) hS (y_assign hS rfl) rfl rfl fun a hS => ?_)
    refine wpList_nil ?_
    try simp only [Exit.then, Exit.inBlock, ↓reduceIte, Nat.reduceEqDiff]
    refine hK25 _ _ ?_
    refine wp_ret ?_
    injection hM with hM
    subst hM
    try simp only [Exit.then, Exit.inBlock, ↓reduceIte, Nat.reduceEqDiff]
    refine ret_ok hS Tryd.results86 (res_tmp hS rfl res_nil) ?_
    exact rfl

noncomputable def containsf_key (f_1 : KeyD → Option Bool) (s_0 : (List KeyD)) : Option Bool := (indexf_key f_1 s_0).bind fun u3 => some (decide ((0 : Int) ≤ u3))
set_option maxRecDepth 100000 in
set_option maxHeartbeats 4000000 in
theorem containsf_key_c (T : Nat → Prop) (W0 : World) (hT : ∀ k, T k → k < W0.heap.size) (hLv : LvP T W0) (f_1g : Nat) (hcf_1 : callI Tryd.prog f_1g = true) (f_1k : List Value) (f_1P : Fact) (f_1 : KeyD → Option Bool) (hf_1 : ∀ (T : Nat → Prop) (W0 : World) (hT : ∀ k, T k → k < W0.heap.size) (hLv : LvP T W0) (hP : f_1P.p T W0) (x0 : KeyD) (y : Bool) (hM : f_1 x0 = some y), Rets Tryd.prog No f_1g ([.agg #[.int .i64 x0.Kind, .string x0.Text]] ++ f_1k) W0 (fun v w' => v = .bool y)) (hPf_1 : f_1P.p T W0) (s_0 : (List KeyD)) (v1 : Value) (hv1 : SlR R_KeyD T W0 v1 s_0) (y : Bool) (hM : containsf_key f_1 s_0 = some y) : Rets Tryd.prog No 56 [v1, .func (.func f_1g) #[] f_1k.toArray] W0 (fun v w' => v = .bool y) := by
  refine enter (c := _) Tryd.func56 rfl T 9 Tryd.ntmps56 hT rfl fun a hS => ?_
  replace hS := hS.fact f_1P (Fact.dn _ hPf_1)
  replace hS := hS.fact LvF (LvP.dn hLv)
  replace hS := hS.fact (SlF R_KeyD v1 s_0) (SlR.dn hv1)
  unfold containsf_key at hM
  refine wp_seq_k fun K3 hK3 => ?_
  refine r_list ?_
  refine wl rfl (ky (v := .bool false) hS (y_assign hS rfl) rfl rfl fun a hS => ?_)
  refine wpList_nil ?_
  try simp only [Exit.then, Exit.inBlock, ↓reduceIte, Nat.reduceEqDiff]
  refine hK3 _ _ ?_
  refine wp_seq_k fun K4 hK4 => ?_
  refine r_list ?_
  refine wl rfl (ky (v := v1) hS (y_move hS rfl) rfl rfl fun a hS => ?_)
  refine wl rfl (ky (v := .func (.func f_1g) #[] f_1k.toArray) hS (y_move hS rfl) rfl rfl fun a hS => ?_)
  obtain ⟨u3, hu3, hM⟩ := bd hM
  refine wl rfl (k_call hS ci86 rfl rfl (indexf_key_c _ _ hS.dlt (hS.get 1 rfl) f_1g hcf_1 f_1k f_1P f_1 hf_1 (hS.get 2 rfl) s_0 _ (hS.get 0 rfl) _ hu3) fun _ w hR a hk hA => ?_)
  have he := Eq.symm hR
  subst he
  have hS := hA [] (fun r hr => by cases hr) List.Pairwise.nil
  refine wl rfl (ky (v := .bool (decide ((0 : Int) ≤ u3))) hS (y_int hS rfl rfl rfl) rfl rfl fun a hS => ?_)
  refine wl rfl (ky (v := .bool (decide ((0 : Int) ≤ u3))) hS (y_assign hS rfl) rfl rfl fun a hS => ?_)
  refine wpList_nil ?_
  try simp only [Exit.then, Exit.inBlock, ↓reduceIte, Nat.reduceEqDiff]
  refine hK4 _ _ ?_
  refine wp_ret ?_
  injection hM with hM
  subst hM
  try simp only [Exit.then, Exit.inBlock, ↓reduceIte, Nat.reduceEqDiff]
  refine ret_ok hS Tryd.results56 (res_tmp hS rfl res_nil) ?_
  exact rfl

noncomputable def deque_Valid1 (k_0 : KeyD) : Option Bool := (key_Valid k_0).bind fun u9 => some (!(u9))
set_option maxRecDepth 100000 in
set_option maxHeartbeats 4000000 in
theorem deque_Valid1_c (T : Nat → Prop) (W0 : World) (hT : ∀ k, T k → k < W0.heap.size) (hLv : LvP T W0) (k_0 : KeyD) (y : Bool) (hM : deque_Valid1 k_0 = some y) : Rets Tryd.prog No 57 [.agg #[.int .i64 k_0.Kind, .string k_0.Text]] W0 (fun v w' => v = .bool y) := by
  refine enter (c := _) Tryd.func57 rfl T 6 Tryd.ntmps57 hT rfl fun a hS => ?_
  replace hS := hS.fact LvF (LvP.dn hLv)
  unfold deque_Valid1 at hM
  refine wp_seq_k fun K3 hK3 => ?_
  refine r_list ?_
  refine wl rfl (k_box hS rfl (cs := [.int .i64 k_0.Kind, .string k_0.Text]) rfl rfl fun b6 hnb8 a w hk hS => ?_)
  refine wl rfl (ky (v := .bool false) hS (y_assign hS rfl) rfl rfl fun a hS => ?_)
  refine wpList_nil ?_
  try simp only [Exit.then, Exit.inBlock, ↓reduceIte, Nat.reduceEqDiff]
  refine hK3 _ _ ?_
  refine wp_seq_k fun K4 hK4 => ?_
  refine r_list ?_
  refine wl rfl (ky (v := .agg #[.int .i64 k_0.Kind, .string k_0.Text]) hS (y_load hS rfl ty26 0 rfl id (us := [.int .i64 k_0.Kind, .string k_0.Text]) rfl rfl (fun h => by cases h)) rfl rfl fun a hS => ?_)
  obtain ⟨u9, hu9, hM⟩ := bd hM
  refine wl rfl (k_call hS ci53 rfl rfl (key_Valid_c _ _ hS.dlt (hS.get 0 rfl) k_0 _ hu9) fun _ w hR a hk hA => ?_)
  have he := Eq.symm hR
  subst he
  have hS := hA [] (fun r hr => by cases hr) List.Pairwise.nil
  refine wl rfl (ky (v := .bool (!(u9))) hS (y_not hS rfl) rfl rfl fun a hS => ?_)
  refine wl rfl (ky (v := .bool (!(u9))) hS (y_assign hS rfl) rfl rfl fun a hS => ?_)
  refine wpList_nil ?_
  try simp only [Exit.then, Exit.inBlock, ↓reduceIte, Nat.reduceEqDiff]
  refine hK4 _ _ ?_
  refine wp_ret ?_
  injection hM with hM
  subst hM
  try simp only [Exit.then, Exit.inBlock, ↓reduceIte, Nat.reduceEqDiff]
  refine ret_ok hS Tryd.results57 (res_tmp hS rfl res_nil) ?_
  exact rfl

noncomputable def deque_Valid_j1 (g23 : Bool) : Option Bool := some (g23)
noncomputable def deque_Valid (d_0 : DequeD) : Option Bool := cond (decide (((d_0.Keys.length : Int) : Int) ≤ 64)) ((containsf_key deque_Valid1 d_0.Keys).bind fun u25 => deque_Valid_j1 (!(u25))) (deque_Valid_j1 false)
set_option maxRecDepth 100000 in
set_option maxHeartbeats 4000000 in
theorem deque_Valid_c (T : Nat → Prop) (W0 : World) (hT : ∀ k, T k → k < W0.heap.size) (hLv : LvP T W0) (d_0 : DequeD) (v1 : Value) (hv1 : SlR R_KeyD T W0 v1 d_0.Keys) (y : Bool) (hM : deque_Valid d_0 = some y) : Rets Tryd.prog No 17 [.agg #[v1]] W0 (fun v w' => v = .bool y) := by
  refine enter (c := _) Tryd.func17 rfl T 13 Tryd.ntmps17 hT rfl fun a hS => ?_
  replace hS := hS.fact LvF (LvP.dn hLv)
  replace hS := hS.fact (SlF R_KeyD v1 d_0.Keys) (SlR.dn hv1)
  unfold deque_Valid at hM
  refine wp_seq_k fun K2 hK2 => ?_
  refine r_list ?_
  refine wl rfl (k_box hS rfl (cs := [v1]) rfl rfl fun b14 hnb16 a w hk hS => ?_)
  refine wl rfl (ky (v := .bool false) hS (y_assign hS rfl) rfl rfl fun a hS => ?_)
  refine wpList_nil ?_
  try simp only [Exit.then, Exit.inBlock, ↓reduceIte, Nat.reduceEqDiff]
  refine hK2 _ _ ?_
  refine seq_j (J := fun a w => ∃ (g23 : Bool), St W0 No T 13 [(2, .bool g23)] [] [LvF] a w ∧ deque_Valid_j1 g23 = some y) ?_ ?_
  · skip
    refine r_list ?_
    refine wl rfl (ky (v := .pointer (some ⟨b14, 0 + 0, none⟩)) hS (y_fld hS rfl fl24_0) rfl rfl fun a hS => ?_)
    refine wl rfl (ky (v := v1) hS (y_load hS rfl ty22 0 rfl id (us := [v1]) rfl rfl (fun _ => rfl)) rfl rfl fun a hS => ?_)
    refine wl rfl (ky (v := .int .i64 (d_0.Keys.length : Int)) hS (y_len (R := R_KeyD) (xs := d_0.Keys) hS sl22 rfl 0 rfl) rfl rfl fun a hS => ?_)
    refine wl rfl (ky (v := .bool (decide (((d_0.Keys.length : Int) : Int) ≤ 64))) hS (y_int hS rfl rfl rfl) rfl rfl fun a hS => ?_)
    refine wl rfl (ky (v := .bool (decide (((d_0.Keys.length : Int) : Int) ≤ 64))) hS (y_move hS rfl) rfl rfl fun a hS => ?_)
    rcases bool2 (decide (((d_0.Keys.length : Int) : Int) ≤ 64)) with hb24 | hb24
    · replace hM := ct hb24 hM
      refine wg hS rfl rfl rfl hb24 (ky (v := .pointer (some ⟨b14, 0 + 0, none⟩)) hS (y_fld hS rfl fl24_0) rfl rfl fun a hS => ?_)
      refine wg hS rfl rfl rfl hb24 (ky (v := v1) hS (y_load hS rfl ty22 0 rfl id (us := [v1]) rfl rfl (fun _ => rfl)) rfl rfl fun a hS => ?_)
      obtain ⟨u25, hu25, hM⟩ := bd hM
      refine wg hS rfl rfl rfl hb24 (k_call hS ci56 rfl rfl (containsf_key_c _ _ hS.dlt (hS.get 1 rfl) 57 ci57 [] TrueF deque_Valid1 (fun T W0 hT hLv _ x0 y hM => deque_Valid1_c T W0 hT hLv x0 y hM) trivial d_0.Keys _ (hS.get 0 rfl) _ hu25) fun _ w hR a hk hA => ?_)
      have he := Eq.symm hR
      subst he
      have hS := hA [] (fun r hr => by cases hr) List.Pairwise.nil
      refine wg hS rfl rfl rfl hb24 (ky (v := .bool (!(u25))) hS (y_not hS rfl) rfl rfl fun a hS => ?_)
      refine wl rfl (ky (v := .bool (!(u25))) hS (y_pickt hS rfl hb24 rfl) rfl rfl fun a hS => ?_)
      refine wl rfl (ky (v := .bool (!(u25))) hS (y_assign hS rfl) rfl rfl fun a hS => ?_)
      refine wpList_nil ?_
      try simp only [Exit.then, Exit.inBlock, ↓reduceIte, Nat.reduceEqDiff]
      exact ⟨(!(u25)), (hS.meet [] (by decide) ⟨rfl, trivial⟩ trivial ⟨⟨1, rfl⟩, trivial⟩), hM⟩
    · replace hM := cf hb24 hM
      refine wn hS rfl rfl rfl hb24 rfl rfl fun a hS => ?_
      refine wn hS rfl rfl rfl hb24 rfl rfl fun a hS => ?_
      refine wn hS rfl rfl rfl hb24 rfl rfl fun a hS => ?_
      refine wn hS rfl rfl rfl hb24 rfl rfl fun a hS => ?_
      refine wl rfl (ky (v := .bool false) hS (y_pickf hS rfl hb24 rfl) rfl rfl fun a hS => ?_)
      refine wl rfl (ky (v := .bool false) hS (y_assign hS rfl) rfl rfl fun a hS => ?_)
      refine wpList_nil ?_
      try simp only [Exit.then, Exit.inBlock, ↓reduceIte, Nat.reduceEqDiff]
      exact ⟨false, (hS.meet [] (by decide) ⟨rfl, trivial⟩ trivial ⟨⟨1, rfl⟩, trivial⟩), hM⟩
  · rintro a w ⟨g23, hS, hM⟩
    unfold deque_Valid_j1 at hM
    refine wp_ret ?_
    injection hM with hM
    subst hM
    try simp only [Exit.then, Exit.inBlock, ↓reduceIte, Nat.reduceEqDiff]
    refine ret_ok hS Tryd.results17 (res_tmp hS rfl res_nil) ?_
    exact rfl

noncomputable def deque_Pop (d_0 : DequeD) : Option (DequeD × KeyD × Bool) := cond (((d_0.Keys.length : Int) : Int) == 0) (some (((DequeD.mk ([])), (KeyD.mk 0 (ByteArray.mk #[])), false))) ((subI d_0.Keys 0 (IntKind.i64.wrap ((d_0.Keys.length : Int) - 1))).bind fun l112 => (getI d_0.Keys (IntKind.i64.wrap ((d_0.Keys.length : Int) - 1))).bind fun e115 => (clone_key l112).bind fun u122 => some (((DequeD.mk u122), e115, true)))
set_option maxRecDepth 100000 in
set_option maxHeartbeats 4000000 in
theorem deque_Pop_c (T : Nat → Prop) (W0 : World) (hT : ∀ k, T k → k < W0.heap.size) (d_0 : DequeD) (v1 : Value) (hv1 : SlR R_KeyD T W0 v1 d_0.Keys) (y : DequeD × KeyD × Bool) (hM : deque_Pop d_0 = some y) : Rets Tryd.prog No 20 [.agg #[v1]] W0 (fun v w' => ∃ (v2 : Value) (cl3 : List Value), v = .tuple #[.agg #[v2], .agg #[.int .i64 y.2.1.Kind, .string y.2.1.Text], .bool y.2.2] ∧ OwnR R_KeyD T W0 w' [.own v2 26 R_KeyD.size cl3] 26 v2 cl3 y.1.Keys) := by
  refine enter (c := _) Tryd.func20 rfl T 26 Tryd.ntmps20 hT rfl fun a hS => ?_
  replace hS := hS.fact (SlF R_KeyD v1 d_0.Keys) (SlR.dn hv1)
  unfold deque_Pop at hM
  refine wp_seq_k fun K7 hK7 => ?_
  refine r_list ?_
  refine wl rfl (k_box hS rfl (cs := [v1]) rfl rfl fun b63 hnb65 a w hk hS => ?_)
  refine wl rfl (k_alloc hS ze24 rfl fun b66 hnb68 a w hk hS => ?_)
  refine wl rfl (k_alloc hS ze26 rfl fun b69 hnb71 a w hk hS => ?_)
  refine wl rfl (ky (v := .bool false) hS (y_assign hS rfl) rfl rfl fun a hS => ?_)
  refine wpList_nil ?_
  try simp only [Exit.then, Exit.inBlock, ↓reduceIte, Nat.reduceEqDiff]
  refine hK7 _ _ ?_
  refine wp_seq_k fun K8 hK8 => ?_
  refine r_list ?_
  refine wl rfl (ky (v := .pointer (some ⟨b63, 0 + 0, none⟩)) hS (y_fld hS rfl fl24_0) rfl rfl fun a hS => ?_)
  refine wl rfl (ky (v := v1) hS (y_load hS rfl ty22 2 rfl id (us := [v1]) rfl rfl (fun _ => rfl)) rfl rfl fun a hS => ?_)
  refine wl rfl (ky (v := .int .i64 (d_0.Keys.length : Int)) hS (y_len (R := R_KeyD) (xs := d_0.Keys) hS sl22 rfl 0 rfl) rfl rfl fun a hS => ?_)
  refine wl rfl (ky (v := .int .i64 (d_0.Keys.length : Int)) hS (y_assign hS rfl) rfl rfl fun a hS => ?_)
  refine wpList_nil ?_
  try simp only [Exit.then, Exit.inBlock, ↓reduceIte, Nat.reduceEqDiff]
  refine hK8 _ _ ?_
  refine wp_seq_k fun K9 hK9 => ?_
  refine wp_seq_k fun K10 hK10 => ?_
  refine r_list ?_
  refine wl rfl (ky (v := .int .i64 (d_0.Keys.length : Int)) hS (y_move hS rfl) rfl rfl fun a hS => ?_)
  refine wl rfl (ky (v := .bool (((d_0.Keys.length : Int) : Int) == 0)) hS (y_int hS rfl rfl rfl) rfl rfl fun a hS => ?_)
  refine wpList_nil ?_
  try simp only [Exit.then, Exit.inBlock, ↓reduceIte, Nat.reduceEqDiff]
  refine hK10 _ _ ?_
  rcases bool2 (((d_0.Keys.length : Int) : Int) == 0) with hb72 | hb72
  · replace hM := ct hb72 hM
    refine c_t hS rfl hb72 ?_
    refine wp_seq_k fun K11 hK11 => ?_
    refine r_list ?_
    refine wl rfl (ky (v := .agg #[.slice none 0 0]) hS (y_build (ps := []) hS pl24 ze24 rfl (us := []) trivial (ws := [.slice none 0 0]) rfl) rfl rfl fun a hS => ?_)
    refine wl rfl (ky (v := .agg #[.int .i64 0, .string (ByteArray.mk #[])]) hS (y_build (ps := []) hS pl26 ze26 rfl (us := []) trivial (ws := [.int .i64 0, .string (ByteArray.mk #[])]) rfl) rfl rfl fun a hS => ?_)
    refine wl rfl (k_store hS rfl rfl (us := [.slice none 0 0]) rfl ty24 1 rfl rfl rfl (oc rfl on) fun w hk hS => ?_)
    refine wl rfl (k_store hS rfl rfl (us := [.int .i64 0, .string (ByteArray.mk #[])]) rfl ty26 0 rfl rfl rfl (oc rfl (oc rfl on)) fun w hk hS => ?_)
    refine wl rfl (ky (v := .bool false) hS (y_assign hS rfl) rfl rfl fun a hS => ?_)
    refine wpList_nil ?_
    try simp only [Exit.then, Exit.inBlock, ↓reduceIte, Nat.reduceEqDiff]
    refine hK11 _ _ ?_
    refine wp_ret ?_
    injection hM with hM
    subst hM
    try simp only [Exit.then, Exit.inBlock, ↓reduceIte, Nat.reduceEqDiff]
    refine ret_ok hS Tryd.results20 (res_cell hS rfl 1 rfl ty24 rfl (fun h => by cases h) (res_cell hS rfl 0 rfl ty26 rfl (fun h => by cases h) (res_tmp hS rfl res_nil))) ?_
    exact ⟨.slice none 0 0, [], rfl, ret_nil _ _ _ _ _ _⟩
  · replace hM := cf hb72 hM
    refine c_f hS rfl hb72 ?_
    refine wp_skip ?_
    try simp only [Exit.then, Exit.inBlock, ↓reduceIte, Nat.reduceEqDiff]
    refine hK9 _ _ ?_
    refine wp_seq_k fun K12 hK12 => ?_
    refine draws [(13, .blk (some b66)), (14, .blk (some b69))] hS mixed rfl (fun c a d v w h => by cases d <;> exact h) fun w hQ hS => ?_
    refine dy 0 (v := .pointer (some ⟨b63, 0 + 0, none⟩)) rfl (by kernel_rfl) (by kernel_rfl) (by kernel_rfl) rfl hQ hS (y_fld hS rfl fl24_0) rfl rfl rfl fun a hS => ?_
    refine dy (l := []) 1 (v := v1) rfl (by kernel_rfl) (by kernel_rfl) (by kernel_rfl) (by kernel_rfl) hQ hS (y_load hS rfl ty22 2 rfl eo_nil (us := [v1]) rfl rfl (fun _ => rfl)) rfl rfl rfl fun a hS => ?_
    refine dy 2 (v := .int .i64 (d_0.Keys.length : Int)) rfl (by kernel_rfl) (by kernel_rfl) (by kernel_rfl) rfl hQ hS (y_move hS rfl) rfl rfl rfl fun a hS => ?_
    refine dy 3 (v := .int .i64 (IntKind.i64.wrap ((d_0.Keys.length : Int) - 1))) rfl (by kernel_rfl) (by kernel_rfl) (by kernel_rfl) rfl hQ hS (y_int hS rfl rfl rfl) rfl rfl rfl fun a hS => ?_
    obtain ⟨l112, hl112, hM⟩ := bd hM
    obtain ⟨v113, hy114, hS⟩ := d_sub (R := R_KeyD) hS sl22 ty26 0 rfl hl112
    refine dy 4 (v := v113) rfl (by kernel_rfl) (by kernel_rfl) (by kernel_rfl) rfl hQ hS (hy114 (k1 := .i64) rfl (.inr ⟨rfl, rfl⟩) (.inl ⟨_, rfl, rfl⟩)) rfl rfl rfl fun a hS => ?_
    refine dy 7 (v := .pointer (some ⟨b63, 0 + 0, none⟩)) rfl (by kernel_rfl) (by kernel_rfl) (by kernel_rfl) rfl hQ hS (y_fld hS rfl fl24_0) rfl rfl rfl fun a hS => ?_
    refine dy (l := [.blk (some b66)]) 8 (v := v1) rfl (by kernel_rfl) (by kernel_rfl) (by kernel_rfl) (by kernel_rfl) hQ hS (y_load hS rfl ty22 2 rfl (eo_ne hS 2 rfl rfl 1 rfl rfl (by decide) eo_nil) (us := [v1]) rfl rfl (fun _ => rfl)) rfl rfl rfl fun a hS => ?_
    refine dy 9 (v := .int .i64 (d_0.Keys.length : Int)) rfl (by kernel_rfl) (by kernel_rfl) (by kernel_rfl) rfl hQ hS (y_move hS rfl) rfl rfl rfl fun a hS => ?_
    refine dy 10 (v := .int .i64 (IntKind.i64.wrap ((d_0.Keys.length : Int) - 1))) rfl (by kernel_rfl) (by kernel_rfl) (by kernel_rfl) rfl hQ hS (y_int hS rfl rfl rfl) rfl rfl rfl fun a hS => ?_
    obtain ⟨e115, he115, hM⟩ := bd hM
    obtain ⟨b116, o117, cs119, hr118, hy121, hS⟩ := d_index (R := R_KeyD) hS sl22 ty26 1 rfl he115
    obtain rfl := hr118
    refine dy 11 (v := .pointer (some ⟨b116, o117, none⟩)) rfl (by kernel_rfl) (by kernel_rfl) (by kernel_rfl) rfl hQ hS (hy121 rfl rfl) rfl rfl rfl fun a hS => ?_
    refine dy (l := [.blk (some b66)]) 12 (v := .agg #[.int .i64 e115.Kind, .string e115.Text]) rfl (by kernel_rfl) (by kernel_rfl) (by kernel_rfl) (by kernel_rfl) hQ hS (y_loadc (k := 0) hS ty26 0 rfl rfl (es_in 1 rfl rfl es_nil) (us := [.int .i64 e115.Kind, .string e115.Text]) rfl rfl (fun h => by cases h)) rfl rfl rfl fun a hS => ?_
    obtain ⟨u122, hu122, hM⟩ := bd hM
    refine wpE_one (i := 5) rfl (by kernel_rfl) rfl (k_call hS ci58 rfl rfl (clone_key_c _ _ hS.dlt l112 _ (hS.get 1 rfl) _ hu122) fun _ w hR a hk hA => ⟨stN (hk), ?_⟩)
    obtain ⟨vz123_2, clz123_3, he, ⟨hOvz123_2, hFvz123_2, hRvz123_2⟩⟩ := hR
    replace he := he.symm
    subst he
    have hS := hA [.own vz123_2 26 R_KeyD.size clz123_3] (adds1 ⟨hOvz123_2, by decide⟩ hFvz123_2) (pw1 _)
    replace hS := hS.fact (RowsF R_KeyD clz123_3 u122) (hRvz123_2.keep (Kt.refl _ _) (dT_dT _))
    refine dy 6 (v := .agg #[vz123_2]) rfl (by kernel_rfl) (by kernel_rfl) (by kernel_rfl) rfl hQ hS (y_build (ps := [(0, .tmp 18)]) hS pl24 ze24 rfl (us := [[vz123_2]]) ⟨(cells1 (own_one (hS.own _ (List.mem_of_getElem? (i := 0) rfl)).1)), trivial⟩ (ws := [vz123_2]) rfl) rfl rfl rfl fun a hS => ?_
    refine wpE_one (i := 13) rfl (by kernel_rfl) rfl (k_store hS rfl rfl (us := [vz123_2]) rfl ty24 2 rfl rfl rfl (oc (own_one (hS.own _ (List.mem_of_getElem? (i := 0) rfl)).1) on) fun w hk hS => ⟨stM rfl hk etBox, ?_⟩)
    refine wpE_one (i := 14) rfl (by kernel_rfl) rfl (k_store hS rfl rfl (us := [.int .i64 e115.Kind, .string e115.Text]) rfl ty26 1 rfl rfl rfl (oc rfl (oc rfl on)) fun w hk hS => ⟨stM rfl hk etBox, ?_⟩)
    refine dy 15 (v := .bool true) rfl (by kernel_rfl) (by kernel_rfl) (by kernel_rfl) rfl hQ hS (y_assign hS rfl) rfl rfl rfl fun a hS => ?_
    refine wpE_done (by kernel_rfl) ?_ _
    try simp only [Exit.then, Exit.inBlock, ↓reduceIte, Nat.reduceEqDiff]
    refine hK12 _ _ ?_
    refine wp_ret ?_
    injection hM with hM
    subst hM
    try simp only [Exit.then, Exit.inBlock, ↓reduceIte, Nat.reduceEqDiff]
    refine ret_ok hS Tryd.results20 (res_cell hS rfl 2 rfl ty24 rfl (fun h => by cases h) (res_cell hS rfl 1 rfl ty26 rfl (fun h => by cases h) (res_tmp hS rfl res_nil))) ?_
    exact ⟨vz123_2, clz123_3, rfl, hS.retOwn ⟨.inr (List.mem_of_getElem? (i := 0) rfl), trivial⟩ 0 rfl 0 rfl⟩

noncomputable def deque_Steal (d_0 : DequeD) : Option (DequeD × KeyD × Bool) := cond (((d_0.Keys.length : Int) : Int) == 0) (some (((DequeD.mk ([])), (KeyD.mk 0 (ByteArray.mk #[])), false))) ((subI d_0.Keys 1 d_0.Keys.length).bind fun l112 => (getI d_0.Keys 0).bind fun e115 => (clone_key l112).bind fun u122 => some (((DequeD.mk u122), e115, true)))
set_option maxRecDepth 100000 in
set_option maxHeartbeats 4000000 in
theorem deque_Steal_c (T : Nat → Prop) (W0 : World) (hT : ∀ k, T k → k < W0.heap.size) (d_0 : DequeD) (v1 : Value) (hv1 : SlR R_KeyD T W0 v1 d_0.Keys) (y : DequeD × KeyD × Bool) (hM : deque_Steal d_0 = some y) : Rets Tryd.prog No 22 [.agg #[v1]] W0 (fun v w' => ∃ (v2 : Value) (cl3 : List Value), v = .tuple #[.agg #[v2], .agg #[.int .i64 y.2.1.Kind, .string y.2.1.Text], .bool y.2.2] ∧ OwnR R_KeyD T W0 w' [.own v2 26 R_KeyD.size cl3] 26 v2 cl3 y.1.Keys) := by
  refine enter (c := _) Tryd.func22 rfl T 20 Tryd.ntmps22 hT rfl fun a hS => ?_
  replace hS := hS.fact (SlF R_KeyD v1 d_0.Keys) (SlR.dn hv1)
  unfold deque_Steal at hM
  refine wp_seq_k fun K6 hK6 => ?_
  refine r_list ?_
  refine wl rfl (k_box hS rfl (cs := [v1]) rfl rfl fun b63 hnb65 a w hk hS => ?_)
  refine wl rfl (k_alloc hS ze24 rfl fun b66 hnb68 a w hk hS => ?_)
  refine wl rfl (k_alloc hS ze26 rfl fun b69 hnb71 a w hk hS => ?_)
  refine wl rfl (ky (v := .bool false) hS (y_assign hS rfl) rfl rfl fun a hS => ?_)
  refine wpList_nil ?_
  try simp only [Exit.then, Exit.inBlock, ↓reduceIte, Nat.reduceEqDiff]
  refine hK6 _ _ ?_
  refine wp_seq_k fun K7 hK7 => ?_
  refine wp_seq_k fun K8 hK8 => ?_
  refine r_list ?_
  refine wl rfl (ky (v := .pointer (some ⟨b63, 0 + 0, none⟩)) hS (y_fld hS rfl fl24_0) rfl rfl fun a hS => ?_)
  refine wl rfl (ky (v := v1) hS (y_load hS rfl ty22 2 rfl id (us := [v1]) rfl rfl (fun _ => rfl)) rfl rfl fun a hS => ?_)
  refine wl rfl (ky (v := .int .i64 (d_0.Keys.length : Int)) hS (y_len (R := R_KeyD) (xs := d_0.Keys) hS sl22 rfl 0 rfl) rfl rfl fun a hS => ?_)
  refine wl rfl (ky (v := .bool (((d_0.Keys.length : Int) : Int) == 0)) hS (y_int hS rfl rfl rfl) rfl rfl fun a hS => ?_)
  refine wpList_nil ?_
  try simp only [Exit.then, Exit.inBlock, ↓reduceIte, Nat.reduceEqDiff]
  refine hK8 _ _ ?_
  rcases bool2 (((d_0.Keys.length : Int) : Int) == 0) with hb72 | hb72
  · replace hM := ct hb72 hM
    refine c_t hS rfl hb72 ?_
    refine wp_seq_k fun K9 hK9 => ?_
    refine r_list ?_
    refine wl rfl (ky (v := .agg #[.slice none 0 0]) hS (y_build (ps := []) hS pl24 ze24 rfl (us := []) trivial (ws := [.slice none 0 0]) rfl) rfl rfl fun a hS => ?_)
    refine wl rfl (ky (v := .agg #[.int .i64 0, .string (ByteArray.mk #[])]) hS (y_build (ps := []) hS pl26 ze26 rfl (us := []) trivial (ws := [.int .i64 0, .string (ByteArray.mk #[])]) rfl) rfl rfl fun a hS => ?_)
    refine wl rfl (k_store hS rfl rfl (us := [.slice none 0 0]) rfl ty24 1 rfl rfl rfl (oc rfl on) fun w hk hS => ?_)
    refine wl rfl (k_store hS rfl rfl (us := [.int .i64 0, .string (ByteArray.mk #[])]) rfl ty26 0 rfl rfl rfl (oc rfl (oc rfl on)) fun w hk hS => ?_)
    refine wl rfl (ky (v := .bool false) hS (y_assign hS rfl) rfl rfl fun a hS => ?_)
    refine wpList_nil ?_
    try simp only [Exit.then, Exit.inBlock, ↓reduceIte, Nat.reduceEqDiff]
    refine hK9 _ _ ?_
    refine wp_ret ?_
    injection hM with hM
    subst hM
    try simp only [Exit.then, Exit.inBlock, ↓reduceIte, Nat.reduceEqDiff]
    refine ret_ok hS Tryd.results22 (res_cell hS rfl 1 rfl ty24 rfl (fun h => by cases h) (res_cell hS rfl 0 rfl ty26 rfl (fun h => by cases h) (res_tmp hS rfl res_nil))) ?_
    exact ⟨.slice none 0 0, [], rfl, ret_nil _ _ _ _ _ _⟩
  · replace hM := cf hb72 hM
    refine c_f hS rfl hb72 ?_
    refine wp_skip ?_
    try simp only [Exit.then, Exit.inBlock, ↓reduceIte, Nat.reduceEqDiff]
    refine hK7 _ _ ?_
    refine wp_seq_k fun K10 hK10 => ?_
    refine draws [(9, .blk (some b66)), (10, .blk (some b69))] hS mixed rfl (fun c a d v w h => by cases d <;> exact h) fun w hQ hS => ?_
    refine dy 0 (v := .pointer (some ⟨b63, 0 + 0, none⟩)) rfl (by kernel_rfl) (by kernel_rfl) (by kernel_rfl) rfl hQ hS (y_fld hS rfl fl24_0) rfl rfl rfl fun a hS => ?_
    refine dy (l := []) 1 (v := v1) rfl (by kernel_rfl) (by kernel_rfl) (by kernel_rfl) (by kernel_rfl) hQ hS (y_load hS rfl ty22 2 rfl eo_nil (us := [v1]) rfl rfl (fun _ => rfl)) rfl rfl rfl fun a hS => ?_
    obtain ⟨l112, hl112, hM⟩ := bd hM
    obtain ⟨v113, hy114, hS⟩ := d_sub (R := R_KeyD) hS sl22 ty26 0 rfl hl112
    refine dy 2 (v := v113) rfl (by kernel_rfl) (by kernel_rfl) (by kernel_rfl) rfl hQ hS (hy114 (k2 := .i64) rfl (.inl ⟨_, rfl, rfl⟩) (.inr ⟨rfl, rfl⟩)) rfl rfl rfl fun a hS => ?_
    refine dy 5 (v := .pointer (some ⟨b63, 0 + 0, none⟩)) rfl (by kernel_rfl) (by kernel_rfl) (by kernel_rfl) rfl hQ hS (y_fld hS rfl fl24_0) rfl rfl rfl fun a hS => ?_
    refine dy (l := [.blk (some b66)]) 6 (v := v1) rfl (by kernel_rfl) (by kernel_rfl) (by kernel_rfl) (by kernel_rfl) hQ hS (y_load hS rfl ty22 2 rfl (eo_ne hS 2 rfl rfl 1 rfl rfl (by decide) eo_nil) (us := [v1]) rfl rfl (fun _ => rfl)) rfl rfl rfl fun a hS => ?_
    obtain ⟨e115, he115, hM⟩ := bd hM
    obtain ⟨b116, o117, cs119, hr118, hy121, hS⟩ := d_index (R := R_KeyD) hS sl22 ty26 1 rfl he115
    obtain rfl := hr118
    refine dy 7 (v := .pointer (some ⟨b116, o117, none⟩)) rfl (by kernel_rfl) (by kernel_rfl) (by kernel_rfl) rfl hQ hS (hy121 rfl rfl) rfl rfl rfl fun a hS => ?_
    refine dy (l := [.blk (some b66)]) 8 (v := .agg #[.int .i64 e115.Kind, .string e115.Text]) rfl (by kernel_rfl) (by kernel_rfl) (by kernel_rfl) (by kernel_rfl) hQ hS (y_loadc (k := 0) hS ty26 0 rfl rfl (es_in 1 rfl rfl es_nil) (us := [.int .i64 e115.Kind, .string e115.Text]) rfl rfl (fun h => by cases h)) rfl rfl rfl fun a hS => ?_
    obtain ⟨u122, hu122, hM⟩ := bd hM
    refine wpE_one (i := 3) rfl (by kernel_rfl) rfl (k_call hS ci58 rfl rfl (clone_key_c _ _ hS.dlt l112 _ (hS.get 1 rfl) _ hu122) fun _ w hR a hk hA => ⟨stN (hk), ?_⟩)
    obtain ⟨vz123_2, clz123_3, he, ⟨hOvz123_2, hFvz123_2, hRvz123_2⟩⟩ := hR
    replace he := he.symm
    subst he
    have hS := hA [.own vz123_2 26 R_KeyD.size clz123_3] (adds1 ⟨hOvz123_2, by decide⟩ hFvz123_2) (pw1 _)
    replace hS := hS.fact (RowsF R_KeyD clz123_3 u122) (hRvz123_2.keep (Kt.refl _ _) (dT_dT _))
    refine dy 4 (v := .agg #[vz123_2]) rfl (by kernel_rfl) (by kernel_rfl) (by kernel_rfl) rfl hQ hS (y_build (ps := [(0, .tmp 14)]) hS pl24 ze24 rfl (us := [[vz123_2]]) ⟨(cells1 (own_one (hS.own _ (List.mem_of_getElem? (i := 0) rfl)).1)), trivial⟩ (ws := [vz123_2]) rfl) rfl rfl rfl fun a hS => ?_
    refine wpE_one (i := 9) rfl (by kernel_rfl) rfl (k_store hS rfl rfl (us := [vz123_2]) rfl ty24 2 rfl rfl rfl (oc (own_one (hS.own _ (List.mem_of_getElem? (i := 0) rfl)).1) on) fun w hk hS => ⟨stM rfl hk etBox, ?_⟩)
    refine wpE_one (i := 10) rfl (by kernel_rfl) rfl (k_store hS rfl rfl (us := [.int .i64 e115.Kind, .string e115.Text]) rfl ty26 1 rfl rfl rfl (oc rfl (oc rfl on)) fun w hk hS => ⟨stM rfl hk etBox, ?_⟩)
    refine dy 11 (v := .bool true) rfl (by kernel_rfl) (by kernel_rfl) (by kernel_rfl) rfl hQ hS (y_assign hS rfl) rfl rfl rfl fun a hS => ?_
    refine wpE_done (by kernel_rfl) ?_ _
    try simp only [Exit.then, Exit.inBlock, ↓reduceIte, Nat.reduceEqDiff]
    refine hK10 _ _ ?_
    refine wp_ret ?_
    injection hM with hM
    subst hM
    try simp only [Exit.then, Exit.inBlock, ↓reduceIte, Nat.reduceEqDiff]
    refine ret_ok hS Tryd.results22 (res_cell hS rfl 2 rfl ty24 rfl (fun h => by cases h) (res_cell hS rfl 1 rfl ty26 rfl (fun h => by cases h) (res_tmp hS rfl res_nil))) ?_
    exact ⟨vz123_2, clz123_3, rfl, hS.retOwn ⟨.inr (List.mem_of_getElem? (i := 0) rfl), trivial⟩ 0 rfl 0 rfl⟩

noncomputable def law32_awake_j1 (g262 : Bool) : Option Bool := some (g262)
noncomputable def law32_awake_j2 (d202 : (List KeyD)) : Option Bool := (deque_Steal (DequeD.mk d202)).bind fun u206 => (deque_Pop (DequeD.mk u206.1.Keys)).bind fun u212 => cond u206.2.2 (cond u212.2.2 ((ref23_Cell 1).bind fun u276 => cond ((u206.2.1.Kind : Int) == u276.Kind && u206.2.1.Text.toList == u276.Text.toList) ((ref23_Cell 3).bind fun u279 => cond ((u212.2.1.Kind : Int) == u279.Kind && u212.2.1.Text.toList == u279.Text.toList) (cond (((u212.1.Keys.length : Int) : Int) == 1) ((deque_Valid (DequeD.mk u212.1.Keys)).bind fun u283 => law32_awake_j1 u283) (law32_awake_j1 false)) (law32_awake_j1 false)) (law32_awake_j1 false)) (law32_awake_j1 false)) (law32_awake_j1 false)
noncomputable def law32_awake_l3 (n301 : Int) (d302 : (List KeyD)) : Option (Fl (Int × (List KeyD)) ((List KeyD))) := cond (decide ((n301 : Int) < 4)) ((ref23_Cell n301).bind fun u329 => (deque_Push (DequeD.mk d302) u329).bind fun u331 => some (.go (IntKind.i64.wrap (n301 + 1), u331.1.Keys))) (some (.out d302))
noncomputable def law32_awake : Option Bool := (loop (fun s : Int × (List KeyD) => law32_awake_l3 s.1 s.2) (1, ([] : List KeyD))).bind fun r => law32_awake_j2 r
set_option maxRecDepth 100000 in
set_option maxHeartbeats 4000000 in
theorem law32_awake_c (T : Nat → Prop) (W0 : World) (hT : ∀ k, T k → k < W0.heap.size) (hLv : LvP T W0) (y : Bool) (hM : law32_awake = some y) : Rets Tryd.prog No 12 [] W0 (fun v w' => v = .bool y) := by
  refine enter (c := _) Tryd.func12 rfl T 54 Tryd.ntmps12 hT rfl fun a hS => ?_
  replace hS := hS.fact LvF (LvP.dn hLv)
  unfold law32_awake at hM
  refine wp_seq_k fun K19 hK19 => ?_
  refine r_list ?_
  refine wl rfl (ky (v := .bool false) hS (y_assign hS rfl) rfl rfl fun a hS => ?_)
  refine wpList_nil ?_
  try simp only [Exit.then, Exit.inBlock, ↓reduceIte, Nat.reduceEqDiff]
  refine hK19 _ _ ?_
  refine wp_seq_k fun K20 hK20 => ?_
  refine r_list ?_
  refine wl rfl (k_alloc hS ze24 rfl fun b162 hnb164 a w hk hS => ?_)
  refine wpList_nil ?_
  try simp only [Exit.then, Exit.inBlock, ↓reduceIte, Nat.reduceEqDiff]
  refine hK20 _ _ ?_
  refine seq_j (J := fun a w => ∃ (d202 : (List KeyD)) (v203 : Value) (cl204 : (List Value)), St W0 No T 54 [(1, .pointer (some ⟨b162, 0, none⟩))] [.own v203 26 R_KeyD.size cl204, .box b162 [v203] 24] [RowsF R_KeyD cl204 d202, LvF] a w ∧ law32_awake_j2 d202 = some y) ?_ ?_
  · skip
    refine wp_seq_k fun K30 hK30 => ?_
    refine r_list ?_
    refine wl rfl (ky (v := .int .i64 1) hS (y_assign hS rfl) rfl rfl fun a hS => ?_)
    refine wpList_nil ?_
    try simp only [Exit.then, Exit.inBlock, ↓reduceIte, Nat.reduceEqDiff]
    refine hK30 _ _ ?_
    refine wp_block ?_
    replace hS := hS.nilRow R_KeyD 26 (by decide)
    obtain ⟨r1, hl1, hMo1⟩ := bd hM
    refine wp_lp (fun s : Int × (List KeyD) => law32_awake_l3 s.1 s.2) (fun s a w => ∃ (n301 : Int) (d302 : (List KeyD)) (v303 : Value) (cl304 : (List Value)), (n301, d302) = s ∧ St W0 No T 54 [(1, .pointer (some ⟨b162, 0, none⟩)), (2, .int .i64 n301)] [.own v303 26 R_KeyD.size cl304, .box b162 [v303] 24] [RowsF R_KeyD cl304 d302, LvF] a w) hl1 ⟨1, ([] : List KeyD), (.slice none 0 0), ([]), rfl, (hS.meet [0, 1] (by decide) ⟨rfl, rfl, trivial⟩ ⟨rfl, rfl, trivial⟩ ⟨⟨0, rfl⟩, ⟨1, rfl⟩, trivial⟩)⟩ ?_
    rintro s a w f1 ⟨n301, d302, v303, cl304, rfl, hS⟩ hM hf1
    have hM : law32_awake_l3 n301 d302 = some f1 := hM
    unfold law32_awake_l3 at hM
    refine wp_seq_k fun K37 hK37 => ?_
    refine wp_seq_k fun K38 hK38 => ?_
    refine r_list ?_
    refine wl rfl (ky (v := .int .i64 n301) hS (y_move hS rfl) rfl rfl fun a hS => ?_)
    refine wl rfl (ky (v := .bool (decide ((n301 : Int) < 4))) hS (y_int hS rfl rfl rfl) rfl rfl fun a hS => ?_)
    refine wpList_nil ?_
    try simp only [Exit.then, Exit.inBlock, ↓reduceIte, Nat.reduceEqDiff]
    refine hK38 _ _ ?_
    rcases bool2 (decide ((n301 : Int) < 4)) with hb323 | hb323
    · replace hM := ct hb323 hM
      refine c_t hS rfl hb323 ?_
      refine wp_skip ?_
      try simp only [Exit.then, Exit.inBlock, ↓reduceIte, Nat.reduceEqDiff]
      refine hK37 _ _ ?_
      refine wp_seq_k fun K39 hK39 => ?_
      refine wp_block ?_
      refine draws [(7, .blk (some b162))] hS mixed rfl (fun c a d v w h => by cases d <;> exact h) fun w hQ hS => ?_
      refine dy (l := []) 0 (v := .agg #[v303]) rfl (by kernel_rfl) (by kernel_rfl) (by kernel_rfl) (by kernel_rfl) hQ hS (y_load hS rfl ty24 1 rfl eo_nil (us := [v303]) rfl rfl (fun h => by cases h)) rfl rfl rfl fun a hS => ?_
      refine dy 1 (v := .int .i64 n301) rfl (by kernel_rfl) (by kernel_rfl) (by kernel_rfl) rfl hQ hS (y_move hS rfl) rfl rfl rfl fun a hS => ?_
      obtain ⟨u329, hu329, hM⟩ := bd hM
      refine wpE_one (i := 2) rfl (by kernel_rfl) rfl (k_call hS ci14 rfl rfl (ref23_Cell_c _ _ hS.dlt (hS.get 1 rfl) n301 _ hu329) fun _ w hR a hk hA => ⟨stN (hk), ?_⟩)
      have he := Eq.symm hR
      subst he
      have hS := hA [] (fun r hr => by cases hr) List.Pairwise.nil
      have hL := hS
      replace hL := hL.freeze (R := R_KeyD) 0 rfl 0 rfl
      obtain ⟨u331, hu331, hM⟩ := bd hM
      refine wpE_one (i := 3) rfl (by kernel_rfl) rfl (k_call hS ci15 rfl rfl (deque_Push_c _ _ hL.dlt (hL.get 2 rfl) (DequeD.mk d302) u329 _ (hL.get 0 rfl) _ hu331) fun _ w hR a hk hA => ⟨stN (hk), ?_⟩)
      obtain ⟨vz332_2, clz332_3, he, ⟨hOvz332_2, hFvz332_2, hRvz332_2⟩⟩ := hR
      replace he := he.symm
      subst he
      have hS := hA [.own vz332_2 26 R_KeyD.size clz332_3] (adds1 ⟨hOvz332_2, by decide⟩ hFvz332_2) (pw1 _)
      replace hS := hS.fact (RowsF R_KeyD clz332_3 u331.1.Keys) hRvz332_2
      refine dy 4 (v := .tuple #[.agg #[vz332_2], .int .i64 u331.2]) rfl (by kernel_rfl) (by kernel_rfl) (by kernel_rfl) rfl hQ hS (y_move hS rfl) rfl rfl rfl fun a hS => ?_
      refine dy 5 (v := .agg #[vz332_2]) rfl (by kernel_rfl) (by kernel_rfl) (by kernel_rfl) rfl hQ hS (y_ex hS rfl rfl) rfl rfl rfl fun a hS => ?_
      refine dy 6 (v := .int .i64 u331.2) rfl (by kernel_rfl) (by kernel_rfl) (by kernel_rfl) rfl hQ hS (y_ex hS rfl rfl) rfl rfl rfl fun a hS => ?_
      refine wpE_one (i := 7) rfl (by kernel_rfl) rfl (k_store hS rfl rfl (us := [vz332_2]) rfl ty24 2 rfl rfl rfl (oc (own_one (hS.own _ (List.mem_of_getElem? (i := 0) rfl)).1) on) fun w hk hS => ⟨stM rfl hk etBox, ?_⟩)
      refine wpE_done (by kernel_rfl) ?_ _
      try simp only [Exit.then, Exit.inBlock, ↓reduceIte, Nat.reduceEqDiff]
      refine hK39 _ _ ?_
      refine r_list ?_
      refine wl rfl (ky (v := .int .i64 n301) hS (y_move hS rfl) rfl rfl fun a hS => ?_)
      refine wl rfl (ky (v := .int .i64 (IntKind.i64.wrap (n301 + 1))) hS (y_int hS rfl rfl rfl) rfl rfl fun a hS => ?_)
      refine wl rfl (ky (v := .int .i64 (IntKind.i64.wrap (n301 + 1))) hS (y_assign hS rfl) rfl rfl fun a hS => ?_)
      refine wpList_nil ?_
      try simp only [Exit.then, Exit.inBlock, ↓reduceIte, Nat.reduceEqDiff]
      exact ⟨(IntKind.i64.wrap (n301 + 1), u331.1.Keys), (Option.some.inj hM).symm, (IntKind.i64.wrap (n301 + 1)), u331.1.Keys, vz332_2, clz332_3, rfl, (hS.meet [0, 2] (by decide) ⟨rfl, rfl, trivial⟩ ⟨rfl, rfl, trivial⟩ ⟨⟨0, rfl⟩, ⟨2, rfl⟩, trivial⟩)⟩
    · replace hM := cf hb323 hM
      refine c_f hS rfl hb323 ?_
      refine wp_exit ?_
      try simp only [Exit.then, Exit.inBlock, ↓reduceIte, Nat.reduceEqDiff]
      injection hM with hM
      subst hM
      have hr := hf1 _ rfl
      subst hr
      have hM : law32_awake_j2 d302 = some y := hMo1
      exact ⟨d302, v303, cl304, (hS.meet [0, 1] (by decide) ⟨rfl, trivial⟩ ⟨rfl, rfl, trivial⟩ ⟨⟨0, rfl⟩, ⟨1, rfl⟩, trivial⟩), hM⟩
  · rintro a w ⟨d202, v203, cl204, hS, hM⟩
    unfold law32_awake_j2 at hM
    refine wp_seq_k fun K28 hK28 => ?_
    refine r_list ?_
    refine wl rfl (ky (v := .agg #[v203]) hS (y_load hS rfl ty24 1 rfl id (us := [v203]) rfl rfl (fun h => by cases h)) rfl rfl fun a hS => ?_)
    have hL := hS
    replace hL := hL.freeze (R := R_KeyD) 0 rfl 0 rfl
    obtain ⟨u206, hu206, hM⟩ := bd hM
    refine wl rfl (k_call hS ci22 rfl rfl (deque_Steal_c _ _ hL.dlt (DequeD.mk d202) _ (hL.get 0 rfl) _ hu206) fun _ w hR a hk hA => ?_)
    obtain ⟨vz207_2, clz207_3, he, ⟨hOvz207_2, hFvz207_2, hRvz207_2⟩⟩ := hR
    replace he := he.symm
    subst he
    have hS := hA [.own vz207_2 26 R_KeyD.size clz207_3] (adds1 ⟨hOvz207_2, by decide⟩ hFvz207_2) (pw1 _)
    replace hS := hS.fact (RowsF R_KeyD clz207_3 u206.1.Keys) hRvz207_2
    refine wl rfl (ky (v := .tuple #[.agg #[vz207_2], .agg #[.int .i64 u206.2.1.Kind, .string u206.2.1.Text], .bool u206.2.2]) hS (y_move hS rfl) rfl rfl fun a hS => ?_)
    refine wl rfl (ky (v := .agg #[vz207_2]) hS (y_ex hS rfl rfl) rfl rfl fun a hS => ?_)
    refine wl rfl (ky (v := .agg #[.int .i64 u206.2.1.Kind, .string u206.2.1.Text]) hS (y_ex hS rfl rfl) rfl rfl fun a hS => ?_)
    refine wl rfl (ky (v := .bool u206.2.2) hS (y_ex hS rfl rfl) rfl rfl fun a hS => ?_)
    refine wl rfl (k_alloc hS ze26 rfl fun b209 hnb211 a w hk hS => ?_)
    refine wl rfl (k_store hS rfl rfl (us := [vz207_2]) rfl ty24 3 rfl rfl rfl (oc (own_one (hS.own _ (List.mem_of_getElem? (i := 1) rfl)).1) on) fun w hk hS => ?_)
    refine wl rfl (k_store hS rfl rfl (us := [.int .i64 u206.2.1.Kind, .string u206.2.1.Text]) rfl ty26 0 rfl rfl rfl (oc rfl (oc rfl on)) fun w hk hS => ?_)
    refine wl rfl (ky (v := .bool u206.2.2) hS (y_assign hS rfl) rfl rfl fun a hS => ?_)
    refine wpList_nil ?_
    try simp only [Exit.then, Exit.inBlock, ↓reduceIte, Nat.reduceEqDiff]
    refine hK28 _ _ ?_
    refine wp_seq_k fun K29 hK29 => ?_
    refine r_list ?_
    refine wl rfl (ky (v := .agg #[vz207_2]) hS (y_load hS rfl ty24 3 rfl id (us := [vz207_2]) rfl rfl (fun h => by cases h)) rfl rfl fun a hS => ?_)
    have hL := hS
    replace hL := hL.freeze (R := R_KeyD) 1 rfl 0 rfl
    obtain ⟨u212, hu212, hM⟩ := bd hM
    refine wl rfl (k_call hS ci20 rfl rfl (deque_Pop_c _ _ hL.dlt (DequeD.mk u206.1.Keys) _ (hL.get 0 rfl) _ hu212) fun _ w hR a hk hA => ?_)
    obtain ⟨vz213_2, clz213_3, he, ⟨hOvz213_2, hFvz213_2, hRvz213_2⟩⟩ := hR
    replace he := he.symm
    subst he
    have hS := hA [.own vz213_2 26 R_KeyD.size clz213_3] (adds1 ⟨hOvz213_2, by decide⟩ hFvz213_2) (pw1 _)
    replace hS := hS.fact (RowsF R_KeyD clz213_3 u212.1.Keys) hRvz213_2
    refine wl rfl (ky (v := .tuple #[.agg #[vz213_2], .agg #[.int .i64 u212.2.1.Kind, .string u212.2.1.Text], .bool u212.2.2]) hS (y_move hS rfl) rfl rfl fun a hS => ?_)
    refine wl rfl (ky (v := .agg #[vz213_2]) hS (y_ex hS rfl rfl) rfl rfl fun a hS => ?_)
    refine wl rfl (ky (v := .agg #[.int .i64 u212.2.1.Kind, .string u212.2.1.Text]) hS (y_ex hS rfl rfl) rfl rfl fun a hS => ?_)
    refine wl rfl (ky (v := .bool u212.2.2) hS (y_ex hS rfl rfl) rfl rfl fun a hS => ?_)
    refine wl rfl (k_alloc hS ze26 rfl fun b215 hnb217 a w hk hS => ?_)
    refine wl rfl (k_store hS rfl rfl (us := [vz213_2]) rfl ty24 5 rfl rfl rfl (oc (own_one (hS.own _ (List.mem_of_getElem? (i := 1) rfl)).1) on) fun w hk hS => ?_)
    refine wl rfl (k_store hS rfl rfl (us := [.int .i64 u212.2.1.Kind, .string u212.2.1.Text]) rfl ty26 0 rfl rfl rfl (oc rfl (oc rfl on)) fun w hk hS => ?_)
    refine wl rfl (ky (v := .bool u212.2.2) hS (y_assign hS rfl) rfl rfl fun a hS => ?_)
    refine wpList_nil ?_
    try simp only [Exit.then, Exit.inBlock, ↓reduceIte, Nat.reduceEqDiff]
    refine hK29 _ _ ?_
    refine seq_j (J := fun a w => ∃ (g262 : Bool), St W0 No T 54 [(0, .bool g262)] [] [LvF] a w ∧ law32_awake_j1 g262 = some y) ?_ ?_
    · skip
      refine draws [] hS mixed rfl (fun c a d v w h => by cases d <;> exact h) fun w hQ hS => ?_
      refine dy 0 (v := .bool u206.2.2) rfl (by kernel_rfl) (by kernel_rfl) (by kernel_rfl) rfl hQ hS (y_move hS rfl) rfl rfl rfl fun a hS => ?_
      refine dy 1 (v := .bool u206.2.2) rfl (by kernel_rfl) (by kernel_rfl) (by kernel_rfl) rfl hQ hS (y_move hS rfl) rfl rfl rfl fun a hS => ?_
      rcases bool2 (u206.2.2) with hb274 | hb274
      · replace hM := ct hb274 hM
        refine dyg 2 (v := .bool u212.2.2) rfl (by kernel_rfl) (by kernel_rfl) (by kernel_rfl) rfl hQ hS (y_move hS rfl) rfl rfl rfl hb274 rfl rfl fun a hS => ?_
        refine dy 3 (v := .bool u212.2.2) rfl (by kernel_rfl) (by kernel_rfl) (by kernel_rfl) rfl hQ hS (y_pickt hS rfl hb274 rfl) rfl rfl rfl fun a hS => ?_
        refine dy 4 (v := .bool u212.2.2) rfl (by kernel_rfl) (by kernel_rfl) (by kernel_rfl) rfl hQ hS (y_move hS rfl) rfl rfl rfl fun a hS => ?_
        rcases bool2 (u212.2.2) with hb275 | hb275
        · replace hM := ct hb275 hM
          refine dyg (l := []) 5 (v := .agg #[.int .i64 u206.2.1.Kind, .string u206.2.1.Text]) rfl (by kernel_rfl) (by kernel_rfl) (by kernel_rfl) (by kernel_rfl) hQ hS (y_load hS rfl ty26 2 rfl eo_nil (us := [.int .i64 u206.2.1.Kind, .string u206.2.1.Text]) rfl rfl (fun h => by cases h)) rfl rfl rfl hb275 rfl rfl fun a hS => ?_
          obtain ⟨u276, hu276, hM⟩ := bd hM
          refine wpE_oneg (i := 6) rfl (by kernel_rfl) hS rfl rfl rfl hb275 (k_call hS ci14 rfl rfl (ref23_Cell_c _ _ hS.dlt (hS.get 3 rfl) 1 _ hu276) fun _ w hR a hk hA => ⟨stN (hk), ?_⟩)
          have he := Eq.symm hR
          subst he
          have hS := hA [] (fun r hr => by cases hr) List.Pairwise.nil
          refine dyg 7 (v := .bool ((u206.2.1.Kind : Int) == u276.Kind && u206.2.1.Text.toList == u276.Text.toList)) rfl (by kernel_rfl) (by kernel_rfl) (by kernel_rfl) rfl hQ hS (eq26 hS rfl rfl) rfl rfl rfl hb275 rfl rfl fun a hS => ?_
          refine dy 8 (v := .bool ((u206.2.1.Kind : Int) == u276.Kind && u206.2.1.Text.toList == u276.Text.toList)) rfl (by kernel_rfl) (by kernel_rfl) (by kernel_rfl) rfl hQ hS (y_pickt hS rfl hb275 rfl) rfl rfl rfl fun a hS => ?_
          refine dy 9 (v := .bool ((u206.2.1.Kind : Int) == u276.Kind && u206.2.1.Text.toList == u276.Text.toList)) rfl (by kernel_rfl) (by kernel_rfl) (by kernel_rfl) rfl hQ hS (y_move hS rfl) rfl rfl rfl fun a hS => ?_
          rcases bool2 ((u206.2.1.Kind : Int) == u276.Kind && u206.2.1.Text.toList == u276.Text.toList) with hb278 | hb278
          · replace hM := ct hb278 hM
            refine dyg (l := []) 10 (v := .agg #[.int .i64 u212.2.1.Kind, .string u212.2.1.Text]) rfl (by kernel_rfl) (by kernel_rfl) (by kernel_rfl) (by kernel_rfl) hQ hS (y_load hS rfl ty26 0 rfl eo_nil (us := [.int .i64 u212.2.1.Kind, .string u212.2.1.Text]) rfl rfl (fun h => by cases h)) rfl rfl rfl hb278 rfl rfl fun a hS => ?_
            obtain ⟨u279, hu279, hM⟩ := bd hM
            refine wpE_oneg (i := 11) rfl (by kernel_rfl) hS rfl rfl rfl hb278 (k_call hS ci14 rfl rfl (ref23_Cell_c _ _ hS.dlt (hS.get 3 rfl) 3 _ hu279) fun _ w hR a hk hA => ⟨stN (hk), ?_⟩)
            have he := Eq.symm hR
            subst he
            have hS := hA [] (fun r hr => by cases hr) List.Pairwise.nil
            refine dyg 12 (v := .bool ((u212.2.1.Kind : Int) == u279.Kind && u212.2.1.Text.toList == u279.Text.toList)) rfl (by kernel_rfl) (by kernel_rfl) (by kernel_rfl) rfl hQ hS (eq26 hS rfl rfl) rfl rfl rfl hb278 rfl rfl fun a hS => ?_
            refine dy 13 (v := .bool ((u212.2.1.Kind : Int) == u279.Kind && u212.2.1.Text.toList == u279.Text.toList)) rfl (by kernel_rfl) (by kernel_rfl) (by kernel_rfl) rfl hQ hS (y_pickt hS rfl hb278 rfl) rfl rfl rfl fun a hS => ?_
            refine dy 14 (v := .bool ((u212.2.1.Kind : Int) == u279.Kind && u212.2.1.Text.toList == u279.Text.toList)) rfl (by kernel_rfl) (by kernel_rfl) (by kernel_rfl) rfl hQ hS (y_move hS rfl) rfl rfl rfl fun a hS => ?_
            rcases bool2 ((u212.2.1.Kind : Int) == u279.Kind && u212.2.1.Text.toList == u279.Text.toList) with hb281 | hb281
            · replace hM := ct hb281 hM
              refine dyg 15 (v := .pointer (some ⟨b162, 0 + 0, none⟩)) rfl (by kernel_rfl) (by kernel_rfl) (by kernel_rfl) rfl hQ hS (y_fld hS rfl fl24_0) rfl rfl rfl hb281 rfl rfl fun a hS => ?_
              refine dyg (l := []) 16 (v := vz213_2) rfl (by kernel_rfl) (by kernel_rfl) (by kernel_rfl) (by kernel_rfl) hQ hS (y_load hS rfl ty22 5 rfl eo_nil (us := [vz213_2]) rfl rfl (fun _ => rfl)) rfl rfl rfl hb281 rfl rfl fun a hS => ?_
              refine dyg 17 (v := .int .i64 (u212.1.Keys.length : Int)) rfl (by kernel_rfl) (by kernel_rfl) (by kernel_rfl) rfl hQ hS (y_leno (R := R_KeyD) (xs := u212.1.Keys) hS sl22 rfl 1 rfl 0 rfl) rfl rfl rfl hb281 rfl rfl fun a hS => ?_
              refine dyg 18 (v := .bool (((u212.1.Keys.length : Int) : Int) == 1)) rfl (by kernel_rfl) (by kernel_rfl) (by kernel_rfl) rfl hQ hS (y_int hS rfl rfl rfl) rfl rfl rfl hb281 rfl rfl fun a hS => ?_
              refine dy 19 (v := .bool (((u212.1.Keys.length : Int) : Int) == 1)) rfl (by kernel_rfl) (by kernel_rfl) (by kernel_rfl) rfl hQ hS (y_pickt hS rfl hb281 rfl) rfl rfl rfl fun a hS => ?_
              refine dy 20 (v := .bool (((u212.1.Keys.length : Int) : Int) == 1)) rfl (by kernel_rfl) (by kernel_rfl) (by kernel_rfl) rfl hQ hS (y_move hS rfl) rfl rfl rfl fun a hS => ?_
              rcases bool2 (((u212.1.Keys.length : Int) : Int) == 1) with hb282 | hb282
              · replace hM := ct hb282 hM
                refine dyg (l := []) 21 (v := .agg #[vz213_2]) rfl (by kernel_rfl) (by kernel_rfl) (by kernel_rfl) (by kernel_rfl) hQ hS (y_load hS rfl ty24 5 rfl eo_nil (us := [vz213_2]) rfl rfl (fun h => by cases h)) rfl rfl rfl hb282 rfl rfl fun a hS => ?_
                have hL := hS
                replace hL := hL.freeze (R := R_KeyD) 1 rfl 0 rfl
                obtain ⟨u283, hu283, hM⟩ := bd hM
                refine wpE_oneg (i := 22) rfl (by kernel_rfl) hS rfl rfl rfl hb282 (k_call hS ci17 rfl rfl (deque_Valid_c _ _ hL.dlt (hL.get 4 rfl) (DequeD.mk u212.1.Keys) _ (hL.get 0 rfl) _ hu283) fun _ w hR a hk hA => ⟨stN (hk), ?_⟩)
                have he := Eq.symm hR
                subst he
                have hS := hA [] (fun r hr => by cases hr) List.Pairwise.nil
                refine dy 23 (v := .bool u283) rfl (by kernel_rfl) (by kernel_rfl) (by kernel_rfl) rfl hQ hS (y_pickt hS rfl hb282 rfl) rfl rfl rfl fun a hS => ?_
                refine dy 24 (v := .bool u283) rfl (by kernel_rfl) (by kernel_rfl) (by kernel_rfl) rfl hQ hS (y_assign hS rfl) rfl rfl rfl fun a hS => ?_
                refine wpE_done (by kernel_rfl) ?_ _
                try simp only [Exit.then, Exit.inBlock, ↓reduceIte, Nat.reduceEqDiff]
                exact ⟨u283, (hS.meet [] (by decide) ⟨rfl, trivial⟩ trivial ⟨⟨3, rfl⟩, trivial⟩), hM⟩
              · replace hM := cf hb282 hM
                refine dyn 21 rfl (by kernel_rfl) (by kernel_rfl) (by kernel_rfl) hQ hS rfl rfl rfl hb282 rfl rfl fun a hS => ?_
                refine dyn 22 rfl (by kernel_rfl) (by kernel_rfl) (by kernel_rfl) hQ hS rfl rfl rfl hb282 rfl rfl fun a hS => ?_
                refine dy 23 (v := .bool false) rfl (by kernel_rfl) (by kernel_rfl) (by kernel_rfl) rfl hQ hS (y_pickf hS rfl hb282 rfl) rfl rfl rfl fun a hS => ?_
                refine dy 24 (v := .bool false) rfl (by kernel_rfl) (by kernel_rfl) (by kernel_rfl) rfl hQ hS (y_assign hS rfl) rfl rfl rfl fun a hS => ?_
                refine wpE_done (by kernel_rfl) ?_ _
                try simp only [Exit.then, Exit.inBlock, ↓reduceIte, Nat.reduceEqDiff]
                exact ⟨false, (hS.meet [] (by decide) ⟨rfl, trivial⟩ trivial ⟨⟨3, rfl⟩, trivial⟩), hM⟩
            · replace hM := cf hb281 hM
              refine dyn 15 rfl (by kernel_rfl) (by kernel_rfl) (by kernel_rfl) hQ hS rfl rfl rfl hb281 rfl rfl fun a hS => ?_
              refine dyn 16 rfl (by kernel_rfl) (by kernel_rfl) (by kernel_rfl) hQ hS rfl rfl rfl hb281 rfl rfl fun a hS => ?_
              refine dyn 17 rfl (by kernel_rfl) (by kernel_rfl) (by kernel_rfl) hQ hS rfl rfl rfl hb281 rfl rfl fun a hS => ?_
              refine dyn 18 rfl (by kernel_rfl) (by kernel_rfl) (by kernel_rfl) hQ hS rfl rfl rfl hb281 rfl rfl fun a hS => ?_
              refine dy 19 (v := .bool false) rfl (by kernel_rfl) (by kernel_rfl) (by kernel_rfl) rfl hQ hS (y_pickf hS rfl hb281 rfl) rfl rfl rfl fun a hS => ?_
              refine dy 20 (v := .bool false) rfl (by kernel_rfl) (by kernel_rfl) (by kernel_rfl) rfl hQ hS (y_move hS rfl) rfl rfl rfl fun a hS => ?_
              refine dyn 21 rfl (by kernel_rfl) (by kernel_rfl) (by kernel_rfl) hQ hS rfl rfl rfl rfl rfl rfl fun a hS => ?_
              refine dyn 22 rfl (by kernel_rfl) (by kernel_rfl) (by kernel_rfl) hQ hS rfl rfl rfl rfl rfl rfl fun a hS => ?_
              refine dy 23 (v := .bool false) rfl (by kernel_rfl) (by kernel_rfl) (by kernel_rfl) rfl hQ hS (y_pickf hS rfl rfl rfl) rfl rfl rfl fun a hS => ?_
              refine dy 24 (v := .bool false) rfl (by kernel_rfl) (by kernel_rfl) (by kernel_rfl) rfl hQ hS (y_assign hS rfl) rfl rfl rfl fun a hS => ?_
              refine wpE_done (by kernel_rfl) ?_ _
              try simp only [Exit.then, Exit.inBlock, ↓reduceIte, Nat.reduceEqDiff]
              exact ⟨false, (hS.meet [] (by decide) ⟨rfl, trivial⟩ trivial ⟨⟨3, rfl⟩, trivial⟩), hM⟩
          · replace hM := cf hb278 hM
            refine dyn 10 rfl (by kernel_rfl) (by kernel_rfl) (by kernel_rfl) hQ hS rfl rfl rfl hb278 rfl rfl fun a hS => ?_
            refine dyn 11 rfl (by kernel_rfl) (by kernel_rfl) (by kernel_rfl) hQ hS rfl rfl rfl hb278 rfl rfl fun a hS => ?_
            refine dyn 12 rfl (by kernel_rfl) (by kernel_rfl) (by kernel_rfl) hQ hS rfl rfl rfl hb278 rfl rfl fun a hS => ?_
            refine dy 13 (v := .bool false) rfl (by kernel_rfl) (by kernel_rfl) (by kernel_rfl) rfl hQ hS (y_pickf hS rfl hb278 rfl) rfl rfl rfl fun a hS => ?_
            refine dy 14 (v := .bool false) rfl (by kernel_rfl) (by kernel_rfl) (by kernel_rfl) rfl hQ hS (y_move hS rfl) rfl rfl rfl fun a hS => ?_
            refine dyn 15 rfl (by kernel_rfl) (by kernel_rfl) (by kernel_rfl) hQ hS rfl rfl rfl rfl rfl rfl fun a hS => ?_
            refine dyn 16 rfl (by kernel_rfl) (by kernel_rfl) (by kernel_rfl) hQ hS rfl rfl rfl rfl rfl rfl fun a hS => ?_
            refine dyn 17 rfl (by kernel_rfl) (by kernel_rfl) (by kernel_rfl) hQ hS rfl rfl rfl rfl rfl rfl fun a hS => ?_
            refine dyn 18 rfl (by kernel_rfl) (by kernel_rfl) (by kernel_rfl) hQ hS rfl rfl rfl rfl rfl rfl fun a hS => ?_
            refine dy 19 (v := .bool false) rfl (by kernel_rfl) (by kernel_rfl) (by kernel_rfl) rfl hQ hS (y_pickf hS rfl rfl rfl) rfl rfl rfl fun a hS => ?_
            refine dy 20 (v := .bool false) rfl (by kernel_rfl) (by kernel_rfl) (by kernel_rfl) rfl hQ hS (y_move hS rfl) rfl rfl rfl fun a hS => ?_
            refine dyn 21 rfl (by kernel_rfl) (by kernel_rfl) (by kernel_rfl) hQ hS rfl rfl rfl rfl rfl rfl fun a hS => ?_
            refine dyn 22 rfl (by kernel_rfl) (by kernel_rfl) (by kernel_rfl) hQ hS rfl rfl rfl rfl rfl rfl fun a hS => ?_
            refine dy 23 (v := .bool false) rfl (by kernel_rfl) (by kernel_rfl) (by kernel_rfl) rfl hQ hS (y_pickf hS rfl rfl rfl) rfl rfl rfl fun a hS => ?_
            refine dy 24 (v := .bool false) rfl (by kernel_rfl) (by kernel_rfl) (by kernel_rfl) rfl hQ hS (y_assign hS rfl) rfl rfl rfl fun a hS => ?_
            refine wpE_done (by kernel_rfl) ?_ _
            try simp only [Exit.then, Exit.inBlock, ↓reduceIte, Nat.reduceEqDiff]
            exact ⟨false, (hS.meet [] (by decide) ⟨rfl, trivial⟩ trivial ⟨⟨3, rfl⟩, trivial⟩), hM⟩
        · replace hM := cf hb275 hM
          refine dyn 5 rfl (by kernel_rfl) (by kernel_rfl) (by kernel_rfl) hQ hS rfl rfl rfl hb275 rfl rfl fun a hS => ?_
          refine dyn 6 rfl (by kernel_rfl) (by kernel_rfl) (by kernel_rfl) hQ hS rfl rfl rfl hb275 rfl rfl fun a hS => ?_
          refine dyn 7 rfl (by kernel_rfl) (by kernel_rfl) (by kernel_rfl) hQ hS rfl rfl rfl hb275 rfl rfl fun a hS => ?_
          refine dy 8 (v := .bool false) rfl (by kernel_rfl) (by kernel_rfl) (by kernel_rfl) rfl hQ hS (y_pickf hS rfl hb275 rfl) rfl rfl rfl fun a hS => ?_
          refine dy 9 (v := .bool false) rfl (by kernel_rfl) (by kernel_rfl) (by kernel_rfl) rfl hQ hS (y_move hS rfl) rfl rfl rfl fun a hS => ?_
          refine dyn 10 rfl (by kernel_rfl) (by kernel_rfl) (by kernel_rfl) hQ hS rfl rfl rfl rfl rfl rfl fun a hS => ?_
          refine dyn 11 rfl (by kernel_rfl) (by kernel_rfl) (by kernel_rfl) hQ hS rfl rfl rfl rfl rfl rfl fun a hS => ?_
          refine dyn 12 rfl (by kernel_rfl) (by kernel_rfl) (by kernel_rfl) hQ hS rfl rfl rfl rfl rfl rfl fun a hS => ?_
          refine dy 13 (v := .bool false) rfl (by kernel_rfl) (by kernel_rfl) (by kernel_rfl) rfl hQ hS (y_pickf hS rfl rfl rfl) rfl rfl rfl fun a hS => ?_
          refine dy 14 (v := .bool false) rfl (by kernel_rfl) (by kernel_rfl) (by kernel_rfl) rfl hQ hS (y_move hS rfl) rfl rfl rfl fun a hS => ?_
          refine dyn 15 rfl (by kernel_rfl) (by kernel_rfl) (by kernel_rfl) hQ hS rfl rfl rfl rfl rfl rfl fun a hS => ?_
          refine dyn 16 rfl (by kernel_rfl) (by kernel_rfl) (by kernel_rfl) hQ hS rfl rfl rfl rfl rfl rfl fun a hS => ?_
          refine dyn 17 rfl (by kernel_rfl) (by kernel_rfl) (by kernel_rfl) hQ hS rfl rfl rfl rfl rfl rfl fun a hS => ?_
          refine dyn 18 rfl (by kernel_rfl) (by kernel_rfl) (by kernel_rfl) hQ hS rfl rfl rfl rfl rfl rfl fun a hS => ?_
          refine dy 19 (v := .bool false) rfl (by kernel_rfl) (by kernel_rfl) (by kernel_rfl) rfl hQ hS (y_pickf hS rfl rfl rfl) rfl rfl rfl fun a hS => ?_
          refine dy 20 (v := .bool false) rfl (by kernel_rfl) (by kernel_rfl) (by kernel_rfl) rfl hQ hS (y_move hS rfl) rfl rfl rfl fun a hS => ?_
          refine dyn 21 rfl (by kernel_rfl) (by kernel_rfl) (by kernel_rfl) hQ hS rfl rfl rfl rfl rfl rfl fun a hS => ?_
          refine dyn 22 rfl (by kernel_rfl) (by kernel_rfl) (by kernel_rfl) hQ hS rfl rfl rfl rfl rfl rfl fun a hS => ?_
          refine dy 23 (v := .bool false) rfl (by kernel_rfl) (by kernel_rfl) (by kernel_rfl) rfl hQ hS (y_pickf hS rfl rfl rfl) rfl rfl rfl fun a hS => ?_
          refine dy 24 (v := .bool false) rfl (by kernel_rfl) (by kernel_rfl) (by kernel_rfl) rfl hQ hS (y_assign hS rfl) rfl rfl rfl fun a hS => ?_
          refine wpE_done (by kernel_rfl) ?_ _
          try simp only [Exit.then, Exit.inBlock, ↓reduceIte, Nat.reduceEqDiff]
          exact ⟨false, (hS.meet [] (by decide) ⟨rfl, trivial⟩ trivial ⟨⟨3, rfl⟩, trivial⟩), hM⟩
      · replace hM := cf hb274 hM
        refine dyn 2 rfl (by kernel_rfl) (by kernel_rfl) (by kernel_rfl) hQ hS rfl rfl rfl hb274 rfl rfl fun a hS => ?_
        refine dy 3 (v := .bool false) rfl (by kernel_rfl) (by kernel_rfl) (by kernel_rfl) rfl hQ hS (y_pickf hS rfl hb274 rfl) rfl rfl rfl fun a hS => ?_
        refine dy 4 (v := .bool false) rfl (by kernel_rfl) (by kernel_rfl) (by kernel_rfl) rfl hQ hS (y_move hS rfl) rfl rfl rfl fun a hS => ?_
        refine dyn 5 rfl (by kernel_rfl) (by kernel_rfl) (by kernel_rfl) hQ hS rfl rfl rfl rfl rfl rfl fun a hS => ?_
        refine dyn 6 rfl (by kernel_rfl) (by kernel_rfl) (by kernel_rfl) hQ hS rfl rfl rfl rfl rfl rfl fun a hS => ?_
        refine dyn 7 rfl (by kernel_rfl) (by kernel_rfl) (by kernel_rfl) hQ hS rfl rfl rfl rfl rfl rfl fun a hS => ?_
        refine dy 8 (v := .bool false) rfl (by kernel_rfl) (by kernel_rfl) (by kernel_rfl) rfl hQ hS (y_pickf hS rfl rfl rfl) rfl rfl rfl fun a hS => ?_
        refine dy 9 (v := .bool false) rfl (by kernel_rfl) (by kernel_rfl) (by kernel_rfl) rfl hQ hS (y_move hS rfl) rfl rfl rfl fun a hS => ?_
        refine dyn 10 rfl (by kernel_rfl) (by kernel_rfl) (by kernel_rfl) hQ hS rfl rfl rfl rfl rfl rfl fun a hS => ?_
        refine dyn 11 rfl (by kernel_rfl) (by kernel_rfl) (by kernel_rfl) hQ hS rfl rfl rfl rfl rfl rfl fun a hS => ?_
        refine dyn 12 rfl (by kernel_rfl) (by kernel_rfl) (by kernel_rfl) hQ hS rfl rfl rfl rfl rfl rfl fun a hS => ?_
        refine dy 13 (v := .bool false) rfl (by kernel_rfl) (by kernel_rfl) (by kernel_rfl) rfl hQ hS (y_pickf hS rfl rfl rfl) rfl rfl rfl fun a hS => ?_
        refine dy 14 (v := .bool false) rfl (by kernel_rfl) (by kernel_rfl) (by kernel_rfl) rfl hQ hS (y_move hS rfl) rfl rfl rfl fun a hS => ?_
        refine dyn 15 rfl (by kernel_rfl) (by kernel_rfl) (by kernel_rfl) hQ hS rfl rfl rfl rfl rfl rfl fun a hS => ?_
        refine dyn 16 rfl (by kernel_rfl) (by kernel_rfl) (by kernel_rfl) hQ hS rfl rfl rfl rfl rfl rfl fun a hS => ?_
        refine dyn 17 rfl (by kernel_rfl) (by kernel_rfl) (by kernel_rfl) hQ hS rfl rfl rfl rfl rfl rfl fun a hS => ?_
        refine dyn 18 rfl (by kernel_rfl) (by kernel_rfl) (by kernel_rfl) hQ hS rfl rfl rfl rfl rfl rfl fun a hS => ?_
        refine dy 19 (v := .bool false) rfl (by kernel_rfl) (by kernel_rfl) (by kernel_rfl) rfl hQ hS (y_pickf hS rfl rfl rfl) rfl rfl rfl fun a hS => ?_
        refine dy 20 (v := .bool false) rfl (by kernel_rfl) (by kernel_rfl) (by kernel_rfl) rfl hQ hS (y_move hS rfl) rfl rfl rfl fun a hS => ?_
        refine dyn 21 rfl (by kernel_rfl) (by kernel_rfl) (by kernel_rfl) hQ hS rfl rfl rfl rfl rfl rfl fun a hS => ?_
        refine dyn 22 rfl (by kernel_rfl) (by kernel_rfl) (by kernel_rfl) hQ hS rfl rfl rfl rfl rfl rfl fun a hS => ?_
        refine dy 23 (v := .bool false) rfl (by kernel_rfl) (by kernel_rfl) (by kernel_rfl) rfl hQ hS (y_pickf hS rfl rfl rfl) rfl rfl rfl fun a hS => ?_
        refine dy 24 (v := .bool false) rfl (by kernel_rfl) (by kernel_rfl) (by kernel_rfl) rfl hQ hS (y_assign hS rfl) rfl rfl rfl fun a hS => ?_
        refine wpE_done (by kernel_rfl) ?_ _
        try simp only [Exit.then, Exit.inBlock, ↓reduceIte, Nat.reduceEqDiff]
        exact ⟨false, (hS.meet [] (by decide) ⟨rfl, trivial⟩ trivial ⟨⟨3, rfl⟩, trivial⟩), hM⟩
    · rintro a w ⟨g262, hS, hM⟩
      unfold law32_awake_j1 at hM
      refine wp_ret ?_
      injection hM with hM
      subst hM
      try simp only [Exit.then, Exit.inBlock, ↓reduceIte, Nat.reduceEqDiff]
      refine ret_ok hS Tryd.results12 (res_tmp hS rfl res_nil) ?_
      exact rfl

noncomputable def deque_Deal1 (k_0 : KeyD) : Option Bool := (key_Valid k_0).bind fun u9 => some (!(u9))
set_option maxRecDepth 100000 in
set_option maxHeartbeats 4000000 in
theorem deque_Deal1_c (T : Nat → Prop) (W0 : World) (hT : ∀ k, T k → k < W0.heap.size) (hLv : LvP T W0) (k_0 : KeyD) (y : Bool) (hM : deque_Deal1 k_0 = some y) : Rets Tryd.prog No 59 [.agg #[.int .i64 k_0.Kind, .string k_0.Text]] W0 (fun v w' => v = .bool y) := by
  refine enter (c := _) Tryd.func59 rfl T 6 Tryd.ntmps59 hT rfl fun a hS => ?_
  replace hS := hS.fact LvF (LvP.dn hLv)
  unfold deque_Deal1 at hM
  refine wp_seq_k fun K3 hK3 => ?_
  refine r_list ?_
  refine wl rfl (k_box hS rfl (cs := [.int .i64 k_0.Kind, .string k_0.Text]) rfl rfl fun b6 hnb8 a w hk hS => ?_)
  refine wl rfl (ky (v := .bool false) hS (y_assign hS rfl) rfl rfl fun a hS => ?_)
  refine wpList_nil ?_
  try simp only [Exit.then, Exit.inBlock, ↓reduceIte, Nat.reduceEqDiff]
  refine hK3 _ _ ?_
  refine wp_seq_k fun K4 hK4 => ?_
  refine r_list ?_
  refine wl rfl (ky (v := .agg #[.int .i64 k_0.Kind, .string k_0.Text]) hS (y_load hS rfl ty26 0 rfl id (us := [.int .i64 k_0.Kind, .string k_0.Text]) rfl rfl (fun h => by cases h)) rfl rfl fun a hS => ?_)
  obtain ⟨u9, hu9, hM⟩ := bd hM
  refine wl rfl (k_call hS ci53 rfl rfl (key_Valid_c _ _ hS.dlt (hS.get 0 rfl) k_0 _ hu9) fun _ w hR a hk hA => ?_)
  have he := Eq.symm hR
  subst he
  have hS := hA [] (fun r hr => by cases hr) List.Pairwise.nil
  refine wl rfl (ky (v := .bool (!(u9))) hS (y_not hS rfl) rfl rfl fun a hS => ?_)
  refine wl rfl (ky (v := .bool (!(u9))) hS (y_assign hS rfl) rfl rfl fun a hS => ?_)
  refine wpList_nil ?_
  try simp only [Exit.then, Exit.inBlock, ↓reduceIte, Nat.reduceEqDiff]
  refine hK4 _ _ ?_
  refine wp_ret ?_
  injection hM with hM
  subst hM
  try simp only [Exit.then, Exit.inBlock, ↓reduceIte, Nat.reduceEqDiff]
  refine ret_ok hS Tryd.results59 (res_tmp hS rfl res_nil) ?_
  exact rfl

noncomputable def deque_Deal_j1 (out533 : (List DequeD)) : Option ((List DequeD) × Int) := some ((out533, 0))
noncomputable def deque_Deal_l2 (l_0 : (List KeyD)) (workers_ : Int) (out616 : (List DequeD)) (g619 : Int) : Option (Fl ((List DequeD) × Int) ((List DequeD))) := cond (decide ((g619 : Int) < (l_0.length : Int))) ((getI l_0 g619).bind fun e701 => gd ((workers_ : Int) != 0) <| gd ((workers_ : Int) != 0) <| (getI out616 (Int.tmod g619 workers_)).bind fun e746 => gd (roomB (e746.Keys.length + ([e701]).length)) <| some (.go ((out616.set (Int.toNat (Int.tmod g619 workers_)) (DequeD.mk (e746.Keys ++ ([e701])))), IntKind.i64.wrap (g619 + 1)))) (some (.out out616))
noncomputable def deque_Deal (l_0 : (List KeyD)) (workers_ : Int) : Option ((List DequeD) × Int) := cond (decide ((workers_ : Int) < 1)) (some (([], 48))) (cond (decide ((6 : Int) < workers_)) (some (([], 48))) ((containsf_key deque_Deal1 l_0).bind fun u358 => cond u358 (some (([], 40))) (cond (decide ((IntKind.i64.wrap (workers_ * 64) : Int) < (l_0.length : Int))) (some (([], 45))) (gd (decide (0 ≤ workers_)) <| gd (roomB (Int.toNat workers_)) <| (loop (fun s : (List DequeD) × Int => deque_Deal_l2 l_0 workers_ s.1 s.2) ((List.replicate (Int.toNat workers_) (DequeD.mk [])), 0)).bind fun r => deque_Deal_j1 r))))
set_option maxRecDepth 100000 in
set_option maxHeartbeats 4000000 in
theorem deque_Deal_c (T : Nat → Prop) (W0 : World) (hT : ∀ k, T k → k < W0.heap.size) (hLv : LvP T W0) (l_0 : (List KeyD)) (workers_ : Int) (v1 : Value) (hv1 : SlR R_KeyD T W0 v1 l_0) (y : (List DequeD) × Int) (hM : deque_Deal l_0 workers_ = some y) : Rets Tryd.prog No 24 [v1, .int .i64 workers_] W0 (fun v w' => ∃ (v2 : Value) (cl3 : List Value), v = .tuple #[v2, .int .i64 y.2] ∧ OwnR R_DequeD T W0 w' [.own v2 24 R_DequeD.size cl3] 24 v2 cl3 y.1) := by
  refine enter (c := _) Tryd.func24 rfl T 52 Tryd.ntmps24 hT rfl fun a hS => ?_
  replace hS := hS.fact LvF (LvP.dn hLv)
  replace hS := hS.fact (SlF R_KeyD v1 l_0) (SlR.dn hv1)
  unfold deque_Deal at hM
  refine wp_seq_k fun K30 hK30 => ?_
  refine r_list ?_
  refine wl rfl (ky (v := .slice none 0 0) hS (y_assign hS rfl) rfl rfl fun a hS => ?_)
  refine wl rfl (ky (v := .int .i64 0) hS (y_assign hS rfl) rfl rfl fun a hS => ?_)
  refine wpList_nil ?_
  try simp only [Exit.then, Exit.inBlock, ↓reduceIte, Nat.reduceEqDiff]
  refine hK30 _ _ ?_
  refine wp_seq_k fun K31 hK31 => ?_
  refine wp_block ?_
  refine wp_seq_k fun K32 hK32 => ?_
  refine r_list ?_
  refine wl rfl (ky (v := .int .i64 workers_) hS (y_move hS rfl) rfl rfl fun a hS => ?_)
  refine wl rfl (ky (v := .bool (decide ((workers_ : Int) < 1))) hS (y_int hS rfl rfl rfl) rfl rfl fun a hS => ?_)
  refine wl rfl (ky (v := .bool (decide ((workers_ : Int) < 1))) hS (y_move hS rfl) rfl rfl fun a hS => ?_)
  rcases bool2 (decide ((workers_ : Int) < 1)) with hb356 | hb356
  · replace hM := ct hb356 hM
    refine wn hS rfl rfl rfl hb356 rfl rfl fun a hS => ?_
    refine wn hS rfl rfl rfl hb356 rfl rfl fun a hS => ?_
    refine wl rfl (ky (v := .bool true) hS (y_pickt hS rfl hb356 rfl) rfl rfl fun a hS => ?_)
    refine wl rfl (ky (v := .bool true) hS (y_assign hS rfl) rfl rfl fun a hS => ?_)
    refine wpList_nil ?_
    try simp only [Exit.then, Exit.inBlock, ↓reduceIte, Nat.reduceEqDiff]
    refine hK32 _ _ ?_
    refine c_t hS rfl rfl ?_
    refine wp_seq_k fun K33 hK33 => ?_
    refine r_list ?_
    refine wl rfl (ky (v := .slice none 0 0) hS (y_assign hS rfl) rfl rfl fun a hS => ?_)
    refine wl rfl (ky (v := .int .i64 48) hS (y_assign hS rfl) rfl rfl fun a hS => ?_)
    refine wpList_nil ?_
    try simp only [Exit.then, Exit.inBlock, ↓reduceIte, Nat.reduceEqDiff]
    refine hK33 _ _ ?_
    refine wp_ret ?_
    injection hM with hM
    subst hM
    try simp only [Exit.then, Exit.inBlock, ↓reduceIte, Nat.reduceEqDiff]
    refine ret_ok hS Tryd.results24 (res_tmp hS rfl (res_tmp hS rfl res_nil)) ?_
    exact ⟨.slice none 0 0, [], rfl, ret_nil _ _ _ _ _ _⟩
  · replace hM := cf hb356 hM
    refine wg hS rfl rfl rfl hb356 (ky (v := .int .i64 workers_) hS (y_move hS rfl) rfl rfl fun a hS => ?_)
    refine wg hS rfl rfl rfl hb356 (ky (v := .bool (decide ((6 : Int) < workers_))) hS (y_int hS rfl rfl rfl) rfl rfl fun a hS => ?_)
    refine wl rfl (ky (v := .bool (decide ((6 : Int) < workers_))) hS (y_pickf hS rfl hb356 rfl) rfl rfl fun a hS => ?_)
    refine wl rfl (ky (v := .bool (decide ((6 : Int) < workers_))) hS (y_assign hS rfl) rfl rfl fun a hS => ?_)
    refine wpList_nil ?_
    try simp only [Exit.then, Exit.inBlock, ↓reduceIte, Nat.reduceEqDiff]
    refine hK32 _ _ ?_
    rcases bool2 (decide ((6 : Int) < workers_)) with hb357 | hb357
    · replace hM := ct hb357 hM
      refine c_t hS rfl hb357 ?_
      refine wp_seq_k fun K34 hK34 => ?_
      refine r_list ?_
      refine wl rfl (ky (v := .slice none 0 0) hS (y_assign hS rfl) rfl rfl fun a hS => ?_)
      refine wl rfl (ky (v := .int .i64 48) hS (y_assign hS rfl) rfl rfl fun a hS => ?_)
      refine wpList_nil ?_
      try simp only [Exit.then, Exit.inBlock, ↓reduceIte, Nat.reduceEqDiff]
      refine hK34 _ _ ?_
      refine wp_ret ?_
      injection hM with hM
      subst hM
      try simp only [Exit.then, Exit.inBlock, ↓reduceIte, Nat.reduceEqDiff]
      refine ret_ok hS Tryd.results24 (res_tmp hS rfl (res_tmp hS rfl res_nil)) ?_
      exact ⟨.slice none 0 0, [], rfl, ret_nil _ _ _ _ _ _⟩
    · replace hM := cf hb357 hM
      refine c_f hS rfl hb357 ?_
      refine wp_seq_k fun K35 hK35 => ?_
      refine r_list ?_
      refine wl rfl (ky (v := v1) hS (y_move hS rfl) rfl rfl fun a hS => ?_)
      obtain ⟨u358, hu358, hM⟩ := bd hM
      refine wl rfl (k_call hS ci56 rfl rfl (containsf_key_c _ _ hS.dlt (hS.get 1 rfl) 59 ci59 [] TrueF deque_Deal1 (fun T W0 hT hLv _ x0 y hM => deque_Deal1_c T W0 hT hLv x0 y hM) trivial l_0 _ (hS.get 0 rfl) _ hu358) fun _ w hR a hk hA => ?_)
      have he := Eq.symm hR
      subst he
      have hS := hA [] (fun r hr => by cases hr) List.Pairwise.nil
      refine wl rfl (ky (v := .bool u358) hS (y_assign hS rfl) rfl rfl fun a hS => ?_)
      refine wpList_nil ?_
      try simp only [Exit.then, Exit.inBlock, ↓reduceIte, Nat.reduceEqDiff]
      refine hK35 _ _ ?_
      rcases bool2 (u358) with hb360 | hb360
      · replace hM := ct hb360 hM
        refine c_t hS rfl hb360 ?_
        refine wp_seq_k fun K36 hK36 => ?_
        refine r_list ?_
        refine wl rfl (ky (v := .slice none 0 0) hS (y_assign hS rfl) rfl rfl fun a hS => ?_)
        refine wl rfl (ky (v := .int .i64 40) hS (y_assign hS rfl) rfl rfl fun a hS => ?_)
        refine wpList_nil ?_
        try simp only [Exit.then, Exit.inBlock, ↓reduceIte, Nat.reduceEqDiff]
        refine hK36 _ _ ?_
        refine wp_ret ?_
        injection hM with hM
        subst hM
        try simp only [Exit.then, Exit.inBlock, ↓reduceIte, Nat.reduceEqDiff]
        refine ret_ok hS Tryd.results24 (res_tmp hS rfl (res_tmp hS rfl res_nil)) ?_
        exact ⟨.slice none 0 0, [], rfl, ret_nil _ _ _ _ _ _⟩
      · replace hM := cf hb360 hM
        refine c_f hS rfl hb360 ?_
        refine wp_seq_k fun K37 hK37 => ?_
        refine r_list ?_
        refine wl rfl (ky (v := v1) hS (y_move hS rfl) rfl rfl fun a hS => ?_)
        refine wl rfl (ky (v := .int .i64 (l_0.length : Int)) hS (y_len (R := R_KeyD) (xs := l_0) hS sl22 rfl 0 rfl) rfl rfl fun a hS => ?_)
        refine wl rfl (ky (v := .int .i64 workers_) hS (y_move hS rfl) rfl rfl fun a hS => ?_)
        refine wl rfl (ky (v := .int .i64 (IntKind.i64.wrap (workers_ * 64))) hS (y_int hS rfl rfl rfl) rfl rfl fun a hS => ?_)
        refine wl rfl (ky (v := .bool (decide ((IntKind.i64.wrap (workers_ * 64) : Int) < (l_0.length : Int)))) hS (y_int hS rfl rfl rfl) rfl rfl fun a hS => ?_)
        refine wl rfl (ky (v := .bool (decide ((IntKind.i64.wrap (workers_ * 64) : Int) < (l_0.length : Int)))) hS (y_assign hS rfl) rfl rfl fun a hS => ?_)
        refine wpList_nil ?_
        try simp only [Exit.then, Exit.inBlock, ↓reduceIte, Nat.reduceEqDiff]
        refine hK37 _ _ ?_
        rcases bool2 (decide ((IntKind.i64.wrap (workers_ * 64) : Int) < (l_0.length : Int))) with hb361 | hb361
        · replace hM := ct hb361 hM
          refine c_t hS rfl hb361 ?_
          refine wp_seq_k fun K38 hK38 => ?_
          refine r_list ?_
          refine wl rfl (ky (v := .slice none 0 0) hS (y_assign hS rfl) rfl rfl fun a hS => ?_)
          refine wl rfl (ky (v := .int .i64 45) hS (y_assign hS rfl) rfl rfl fun a hS => ?_)
          refine wpList_nil ?_
          try simp only [Exit.then, Exit.inBlock, ↓reduceIte, Nat.reduceEqDiff]
          refine hK38 _ _ ?_
          refine wp_ret ?_
          injection hM with hM
          subst hM
          try simp only [Exit.then, Exit.inBlock, ↓reduceIte, Nat.reduceEqDiff]
          refine ret_ok hS Tryd.results24 (res_tmp hS rfl (res_tmp hS rfl res_nil)) ?_
          exact ⟨.slice none 0 0, [], rfl, ret_nil _ _ _ _ _ _⟩
        · replace hM := cf hb361 hM
          refine c_f hS rfl hb361 ?_
          refine wp_skip ?_
          try simp only [Exit.then, Exit.inBlock, ↓reduceIte, Nat.reduceEqDiff]
          refine hK31 _ _ ?_
          refine wp_seq_k fun K39 hK39 => ?_
          refine r_list ?_
          refine wl rfl (ky (v := .int .i64 workers_) hS (y_move hS rfl) rfl rfl fun a hS => ?_)
          obtain ⟨hg362, hM⟩ := gd_some hM
          obtain ⟨hg363, hM⟩ := gd_some hM
          refine wl rfl (k_make (R := R_DequeDN) (z0 := nst_DequeD.nf (.slice none 0 0) (DequeD.mk [])) hS el30 ze24 (by decide) rfl rfl hg362 hg363 ⟨rfl, rfl⟩ rfl fun v364 cl365 a w hk hS => ?_)
          obtain ⟨in368, hS⟩ := St.madeN (N := nst_DequeD) (z := (DequeD.mk [])) hS rfl
          replace hS := (show St W0 No T 52 _ [.own v364 24 R_DequeDN.size cl365, .grp in368] (RowsF R_DequeDN cl365 (nzip nst_DequeD in368 (List.replicate (Int.toNat workers_) (DequeD.mk []))) :: InnF nst_DequeD in368 (List.replicate (Int.toNat workers_) (DequeD.mk [])) :: _) _ _ from hS)
          refine wl rfl (ky (v := v364) hS (y_assign hS rfl) rfl rfl fun a hS => ?_)
          refine wpList_nil ?_
          try simp only [Exit.then, Exit.inBlock, ↓reduceIte, Nat.reduceEqDiff]
          refine hK39 _ _ ?_
          refine seq_j (J := fun a w => ∃ (out533 : (List DequeD)) (cl534 : (List Value)) (in535 : (List OwnT)), St W0 No T 52 [(6, v364)] [.own v364 24 R_DequeDN.size cl534, .grp in535] [RowsF R_DequeDN cl534 (nzip nst_DequeD in535 out533), InnF nst_DequeD in535 out533, LvF] a w ∧ deque_Deal_j1 out533 = some y) ?_ ?_
          · skip
            refine wp_seq_k fun K50 hK50 => ?_
            refine r_list ?_
            refine wl rfl (ky (v := v1) hS (y_move hS rfl) rfl rfl fun a hS => ?_)
            refine wl rfl (ky (v := .int .i64 (l_0.length : Int)) hS (y_len (R := R_KeyD) (xs := l_0) hS sl22 rfl 2 rfl) rfl rfl fun a hS => ?_)
            refine wl rfl (ky (v := .int .i64 0) hS (y_move hS rfl) rfl rfl fun a hS => ?_)
            refine wpList_nil ?_
            try simp only [Exit.then, Exit.inBlock, ↓reduceIte, Nat.reduceEqDiff]
            refine hK50 _ _ ?_
            refine wp_block ?_
            obtain ⟨r1, hl1, hMo1⟩ := bd hM
            refine wp_lp (fun s : (List DequeD) × Int => deque_Deal_l2 l_0 workers_ s.1 s.2) (fun s a w => ∃ (out616 : (List DequeD)) (g619 : Int) (cl617 : (List Value)) (in618 : (List OwnT)), (out616, g619) = s ∧ St W0 No T 52 [(1, .int .i64 workers_), (6, v364), (27, v1), (28, .int .i64 (l_0.length : Int)), (29, .int .i64 g619)] [.own v364 24 R_DequeDN.size cl617, .grp in618] [RowsF R_DequeDN cl617 (nzip nst_DequeD in618 out616), InnF nst_DequeD in618 out616, SlF R_KeyD v1 l_0, LvF] a w) hl1 ⟨(List.replicate (Int.toNat workers_) (DequeD.mk [])), 0, cl365, in368, rfl, (hS.meet [0, 1] (by decide) ⟨rfl, rfl, rfl, rfl, rfl, trivial⟩ ⟨rfl, rfl, trivial⟩ ⟨⟨0, rfl⟩, ⟨1, rfl⟩, ⟨2, rfl⟩, ⟨3, rfl⟩, trivial⟩)⟩ ?_
            rintro s a w f1 ⟨out616, g619, cl617, in618, rfl, hS⟩ hM hf1
            have hM : deque_Deal_l2 l_0 workers_ out616 g619 = some f1 := hM
            unfold deque_Deal_l2 at hM
            refine wp_seq_k fun K59 hK59 => ?_
            refine r_list ?_
            refine wl rfl (ky (v := .bool (decide ((g619 : Int) < (l_0.length : Int)))) hS (y_int hS rfl rfl rfl) rfl rfl fun a hS => ?_)
            refine wpList_nil ?_
            try simp only [Exit.then, Exit.inBlock, ↓reduceIte, Nat.reduceEqDiff]
            refine hK59 _ _ ?_
            refine wp_seq_k fun K60 hK60 => ?_
            rcases bool2 (decide ((g619 : Int) < (l_0.length : Int))) with hb700 | hb700
            · replace hM := ct hb700 hM
              refine c_t hS rfl hb700 ?_
              refine wp_skip ?_
              try simp only [Exit.then, Exit.inBlock, ↓reduceIte, Nat.reduceEqDiff]
              refine hK60 _ _ ?_
              refine wp_seq_k fun K61 hK61 => ?_
              refine wp_block ?_
              refine wp_seq_k fun K62 hK62 => ?_
              refine r_list ?_
              refine wl rfl (ky (v := .int .i64 g619) hS (y_move hS rfl) rfl rfl fun a hS => ?_)
              obtain ⟨e701, he701, hM⟩ := bd hM
              refine wl rfl (k_index (R := R_KeyD) hS sl22 ty26 rfl rfl 2 rfl he701 rfl fun b702 o703 cs705 hr704 a hS => ?_)
              obtain rfl := hr704
              refine wl rfl (ky (v := .agg #[.int .i64 e701.Kind, .string e701.Text]) hS (y_loadc (k := 0) hS ty26 0 rfl rfl (fun _ h => h.elim) (us := [.int .i64 e701.Kind, .string e701.Text]) rfl rfl (fun h => by cases h)) rfl rfl fun a hS => ?_)
              refine wl rfl (k_alloc hS ze26 rfl fun b707 hnb709 a w hk hS => ?_)
              refine wl rfl (ky (v := .int .i64 g619) hS (y_assign hS rfl) rfl rfl fun a hS => ?_)
              refine wl rfl (k_store hS rfl rfl (us := [.int .i64 e701.Kind, .string e701.Text]) rfl ty26 0 rfl rfl rfl (oc rfl (oc rfl on)) fun w hk hS => ?_)
              refine wpList_nil ?_
              try simp only [Exit.then, Exit.inBlock, ↓reduceIte, Nat.reduceEqDiff]
              refine hK62 _ _ ?_
              refine draws [(13, .any), (16, .blk (Value.ownBlock v364))] hS mixed rfl (fun c a d v w h => by cases d <;> exact h) fun w hQ hS => ?_
              refine dy 0 (v := v364) rfl (by kernel_rfl) (by kernel_rfl) (by kernel_rfl) rfl hQ hS (y_move hS rfl) rfl rfl rfl fun a hS => ?_
              refine dy 1 (v := .int .i64 g619) rfl (by kernel_rfl) (by kernel_rfl) (by kernel_rfl) rfl hQ hS (y_move hS rfl) rfl rfl rfl fun a hS => ?_
              refine dy 2 (v := .int .i64 workers_) rfl (by kernel_rfl) (by kernel_rfl) (by kernel_rfl) rfl hQ hS (y_move hS rfl) rfl rfl rfl fun a hS => ?_
              obtain ⟨hg743, hM⟩ := gd_some hM
              refine dy 3 (v := .int .i64 (Int.tmod g619 workers_)) rfl (by kernel_rfl) (by kernel_rfl) (by kernel_rfl) rfl hQ hS (y_rem hS rfl rfl (bne_iff_ne.1 hg743)) rfl rfl rfl fun a hS => ?_
              refine dy 4 (v := v364) rfl (by kernel_rfl) (by kernel_rfl) (by kernel_rfl) rfl hQ hS (y_move hS rfl) rfl rfl rfl fun a hS => ?_
              refine dy 5 (v := .int .i64 g619) rfl (by kernel_rfl) (by kernel_rfl) (by kernel_rfl) rfl hQ hS (y_move hS rfl) rfl rfl rfl fun a hS => ?_
              refine dy 6 (v := .int .i64 workers_) rfl (by kernel_rfl) (by kernel_rfl) (by kernel_rfl) rfl hQ hS (y_move hS rfl) rfl rfl rfl fun a hS => ?_
              obtain ⟨hg744, hM⟩ := gd_some hM
              refine dy 7 (v := .int .i64 (Int.tmod g619 workers_)) rfl (by kernel_rfl) (by kernel_rfl) (by kernel_rfl) rfl hQ hS (y_rem hS rfl rfl (bne_iff_ne.1 hg744)) rfl rfl rfl fun a hS => ?_
              obtain ⟨e746, he746, hM⟩ := bd hM
              obtain ⟨q747, ho748, hgn749⟩ := nz_get (N := nst_DequeD) (hS.get 2 rfl) he746
              obtain ⟨b750, o751, p756, cs753, hr752, hO754, hC755, hy757⟩ := d_indexo (R := R_DequeDN) hS sl30 ty24 1 rfl 1 rfl hgn749
              obtain ⟨rfl, hon745⟩ := hr752
              refine dy 8 (v := .pointer (some ⟨b750, o751, none⟩)) rfl (by kernel_rfl) (by kernel_rfl) (by kernel_rfl) rfl hQ hS (hy757 rfl rfl) rfl rfl rfl fun a hS => ?_
              refine dy 9 (v := .pointer (some ⟨b750, o751 + 0, none⟩)) rfl (by kernel_rfl) (by kernel_rfl) (by kernel_rfl) rfl hQ hS (y_fld hS rfl fl24_0) rfl rfl rfl fun a hS => ?_
              refine dy (l := []) 10 (v := q747.v) rfl (by kernel_rfl) (by kernel_rfl) (by kernel_rfl) (by kernel_rfl) hQ hS (y_loado (k := 0) hS ty22 1 rfl hO754 hC755 rfl eo_nil (us := [q747.v]) rfl rfl (fun _ => rfl)) rfl rfl rfl fun a hS => ?_
              replace hS := (show St W0 No T 52 _ [.own q747.v 26 R_KeyD.size q747.cl, .box b707 [.int .i64 e701.Kind, .string e701.Text] 26, .own v364 24 R_DequeDN.size cl617, .grp (in618.set (Int.toNat (Int.tmod g619 workers_)) nst_DequeD.no)] (RowsF R_KeyD q747.cl e746.Keys :: InnF nst_DequeD (in618.set (Int.toNat (Int.tmod g619 workers_)) nst_DequeD.no) (out616.set (Int.toNat (Int.tmod g619 workers_)) (nst_DequeD.put [] e746)) :: _) _ _ from hS.focus (N := nst_DequeD) 2 rfl 2 rfl he746 ho748)
              refine dy (l := []) 11 (v := .agg #[.int .i64 e701.Kind, .string e701.Text]) rfl (by kernel_rfl) (by kernel_rfl) (by kernel_rfl) (by kernel_rfl) hQ hS (y_load hS rfl ty26 1 rfl eo_nil (us := [.int .i64 e701.Kind, .string e701.Text]) rfl rfl (fun h => by cases h)) rfl rfl rfl fun a hS => ?_
              refine wpE_one (i := 12) rfl (by kernel_rfl) rfl (k_bslice (ps := [(0, .tmp 45)]) hS el22 ze26 (zl := [.int .i64 0, .string (ByteArray.mk #[])]) (by kernel_rfl) rfl (us := [[.int .i64 e701.Kind, .string e701.Text]]) ⟨rfl, trivial⟩ (ws := [.int .i64 e701.Kind, .string e701.Text]) rfl rfl rfl rfl fun b759 a w hk hS => ⟨stN (hk), ?_⟩)
              replace hS := hS.lit (R := R_KeyD) (us := [.int .i64 e701.Kind, .string e701.Text]) (xs := [e701]) 0 rfl (by decide) (RowsOk.one_ (R := R_KeyD) (x := e701) rfl) rfl rfl
              replace hS := hS.freeze (R := R_KeyD) 0 rfl 0 rfl
              obtain ⟨hg761, hM⟩ := gd_some hM
              refine wpE_one (i := 13) rfl (by kernel_rfl) rfl (k_apps (R := R_KeyD) (xs := e746.Keys) (ys := [e701]) hS el22 (by decide) (by decide) rfl rfl 0 rfl 2 rfl 0 rfl hg761 rfl fun v762 cl763 a w hk hS => ⟨stM rfl hk etAny, ?_⟩)
              obtain ⟨b766, o767, p772, cs769, hr768, hO770, hC771, hy773⟩ := d_indexo (R := R_DequeDN) hS sl30 ty24 2 rfl 6 rfl hgn749
              obtain ⟨rfl, hon765⟩ := hr768
              refine dy 14 (v := .pointer (some ⟨b766, o767, none⟩)) rfl (by kernel_rfl) (by kernel_rfl) (by kernel_rfl) rfl hQ hS (hy773 rfl rfl) rfl rfl rfl fun a hS => ?_
              refine dy 15 (v := .pointer (some ⟨b766, o767 + 0, none⟩)) rfl (by kernel_rfl) (by kernel_rfl) (by kernel_rfl) rfl hQ hS (y_fld hS rfl fl24_0) rfl rfl rfl fun a hS => ?_
              refine wpE_one (i := 16) rfl (by kernel_rfl) rfl (k_storeo (R := R_DequeDN) (k := 0) (cs := [q747.v]) (us := [v762]) (x' := nst_DequeD.nf v762 e746) hS rfl rfl (cells1 (own_one (hS.own _ (List.mem_of_getElem? (i := 0) rfl)).1)) ty22 2 rfl 6 rfl hO770 hC771 hgn749 ⟨rfl, hon765⟩ rfl rfl ⟨rfl, own_one (hS.own _ (List.mem_of_getElem? (i := 0) rfl)).1⟩ fun cl774 w hk hS => ⟨stM rfl hk etOwn, ?_⟩)
              obtain ⟨in775, hS⟩ := St.relay (N := nst_DequeD) (inn := in618) (xs := out616) (x := e746) (i := Int.toNat (Int.tmod g619 workers_)) hS 0 rfl 3 rfl (by decide) 5 rfl 1 rfl 0 rfl ho748
              replace hS := (show St W0 No T 52 _ [.box b707 [.int .i64 e701.Kind, .string e701.Text] 26, .own v364 24 R_DequeDN.size cl774, .grp in775] (RowsF R_DequeDN cl774 (nzip nst_DequeD in775 (out616.set (Int.toNat (Int.tmod g619 workers_)) (DequeD.mk (e746.Keys ++ ([e701]))))) :: InnF nst_DequeD in775 (out616.set (Int.toNat (Int.tmod g619 workers_)) (DequeD.mk (e746.Keys ++ ([e701])))) :: _) _ _ from hS)
              refine wpE_done (by kernel_rfl) ?_ _
              try simp only [Exit.then, Exit.inBlock, ↓reduceIte, Nat.reduceEqDiff]
              refine hK61 _ _ ?_
              refine r_list ?_
              refine wl rfl (ky (v := .int .i64 (IntKind.i64.wrap (g619 + 1))) hS (y_int hS rfl rfl rfl) rfl rfl fun a hS => ?_)
              refine wl rfl (ky (v := .int .i64 (IntKind.i64.wrap (g619 + 1))) hS (y_move hS rfl) rfl rfl fun a hS => ?_)
              refine wpList_nil ?_
              try simp only [Exit.then, Exit.inBlock, ↓reduceIte, Nat.reduceEqDiff]
              exact ⟨((out616.set (Int.toNat (Int.tmod g619 workers_)) (DequeD.mk (e746.Keys ++ ([e701])))), IntKind.i64.wrap (g619 + 1)), (Option.some.inj hM).symm, (out616.set (Int.toNat (Int.tmod g619 workers_)) (DequeD.mk (e746.Keys ++ ([e701])))), (IntKind.i64.wrap (g619 + 1)), cl774, in775, rfl, (hS.meet [1, 2] (by decide) ⟨rfl, rfl, rfl, rfl, rfl, trivial⟩ ⟨rfl, rfl, trivial⟩ ⟨⟨0, rfl⟩, ⟨1, rfl⟩, ⟨11, rfl⟩, ⟨12, rfl⟩, trivial⟩)⟩
            · replace hM := cf hb700 hM
              refine c_f hS rfl hb700 ?_
              refine wp_exit ?_
              try simp only [Exit.then, Exit.inBlock, ↓reduceIte, Nat.reduceEqDiff]
              injection hM with hM
              subst hM
              have hr := hf1 _ rfl
              subst hr
              have hM : deque_Deal_j1 out616 = some y := hMo1
              exact ⟨out616, cl617, in618, (hS.meet [0, 1] (by decide) ⟨rfl, trivial⟩ ⟨rfl, rfl, trivial⟩ ⟨⟨0, rfl⟩, ⟨1, rfl⟩, ⟨3, rfl⟩, trivial⟩), hM⟩
          · rintro a w ⟨out533, cl534, in535, hS, hM⟩
            unfold deque_Deal_j1 at hM
            refine wp_seq_k fun K49 hK49 => ?_
            refine r_list ?_
            refine wl rfl (ky (v := v364) hS (y_move hS rfl) rfl rfl fun a hS => ?_)
            refine wl rfl (ky (v := v364) hS (y_assign hS rfl) rfl rfl fun a hS => ?_)
            refine wl rfl (ky (v := .int .i64 0) hS (y_assign hS rfl) rfl rfl fun a hS => ?_)
            refine wpList_nil ?_
            try simp only [Exit.then, Exit.inBlock, ↓reduceIte, Nat.reduceEqDiff]
            refine hK49 _ _ ?_
            refine wp_ret ?_
            replace hS := hS.closeN (N := nst_DequeD) (v := .int .i64 0) (e := 0) 1 rfl 1 rfl 0 rfl
            replace hS := (show St W0 No T 52 _ [.own v364 24 R_DequeD.size cl534] (RowsF R_DequeD cl534 out533 :: _) _ _ from hS)
            injection hM with hM
            subst hM
            try simp only [Exit.then, Exit.inBlock, ↓reduceIte, Nat.reduceEqDiff]
            refine ret_ok hS Tryd.results24 (res_tmp hS rfl (res_tmp hS rfl res_nil)) ?_
            exact ⟨v364, cl534, rfl, hS.retOwn ⟨.inr (List.mem_of_getElem? (i := 0) rfl), trivial⟩ 0 rfl 0 rfl⟩

noncomputable def law32_DequeDeals_j1 (g1360 : Bool) : Option Bool := some (g1360)
noncomputable def law32_DequeDeals_j2 (u829 : Int) (l867 : (List KeyD)) (u871 : ((List DequeD) × Int)) (sum1263 : Int) : Option Bool := cond ((sum1263 : Int) == (l867.length : Int)) ((getI u871.1 0).bind fun e1386 => (getI u871.1 (IntKind.i64.wrap ((IntKind.i64.wrap (1 + u829)) - 1))).bind fun e1396 => cond (decide ((IntKind.i64.wrap ((e1386.Keys.length : Int) - (e1396.Keys.length : Int)) : Int) ≤ 1)) ((law32_awake).bind fun u1407 => law32_DequeDeals_j1 u1407) (law32_DequeDeals_j1 false)) (law32_DequeDeals_j1 false)
noncomputable def law32_DequeDeals_j3 (g1602 : Int) (sum1890 : Int) : Option (Fl (Int × Int) (Fl (Int) Bool)) := some (.go (sum1890, IntKind.i64.wrap (g1602 + 1)))
noncomputable def law32_DequeDeals_j4 (sum1601 : Int) (g1602 : Int) (e1891 : DequeD) : Option (Fl (Int × Int) (Fl (Int) Bool)) := law32_DequeDeals_j3 g1602 (IntKind.i64.wrap (sum1601 + (e1891.Keys.length : Int)))
noncomputable def law32_DequeDeals_l5 (u829 : Int) (g1602 : Int) (e1891 : DequeD) (g1964 : Int) : Option (Fl (Int) (Fl (Unit) Bool)) := cond (decide ((g1964 : Int) < (e1891.Keys.length : Int))) ((getI e1891.Keys g1964).bind fun e1986 => (ref23_Cell (IntKind.i64.wrap (g1602 + (IntKind.i64.wrap (g1964 * (IntKind.i64.wrap (1 + u829))))))).bind fun u2001 => cond (!((e1986.Kind : Int) == u2001.Kind && e1986.Text.toList == u2001.Text.toList)) (some (.out (.out false))) (some (.go (IntKind.i64.wrap (g1964 + 1))))) (some (.out (.go ())))
noncomputable def law32_DequeDeals_l6 (u829 : Int) (u871 : ((List DequeD) × Int)) (sum1601 : Int) (g1602 : Int) : Option (Fl (Int × Int) (Fl (Int) Bool)) := cond (decide ((g1602 : Int) < (u871.1.length : Int))) ((getI u871.1 g1602).bind fun e1891 => (loop (fun s : Int => law32_DequeDeals_l5 u829 g1602 e1891 s) 0).bind fun r => Fl.el r (fun s => law32_DequeDeals_j4 sum1601 g1602 e1891) (fun y => some (.out (.out y)))) (some (.out (.go sum1601)))
noncomputable def law32_DequeDeals_j7 (u829 : Int) (l867 : (List KeyD)) : Option Bool := (deque_Deal l867 (IntKind.i64.wrap (1 + u829))).bind fun u871 => cond ((u871.2 : Int) != 0) (some (false)) (cond (((u871.1.length : Int) : Int) != (IntKind.i64.wrap (1 + u829))) (some (false)) ((loop (fun s : Int × Int => law32_DequeDeals_l6 u829 u871 s.1 s.2) (0, 0)).bind fun r => Fl.el r (fun s => law32_DequeDeals_j2 u829 l867 u871 s) (fun y => some (y))))
noncomputable def law32_DequeDeals_l8 (u2004 : Int) (l2021 : (List KeyD)) (g2025 : Int) : Option (Fl ((List KeyD) × Int) ((List KeyD))) := cond (decide ((g2025 : Int) < u2004)) ((ref23_Cell g2025).bind fun u2042 => gd (roomB (l2021.length + ([u2042]).length)) <| some (.go ((l2021 ++ ([u2042])), IntKind.i64.wrap (g2025 + 1)))) (some (.out l2021))
noncomputable def law32_DequeDeals (n_0 : Int) (workers_ : Int) : Option Bool := (mill_Mod workers_ 6).bind fun u829 => (mill_Mod n_0 40).bind fun u2004 => (loop (fun s : (List KeyD) × Int => law32_DequeDeals_l8 u2004 s.1 s.2) (([] : List KeyD), 0)).bind fun r => law32_DequeDeals_j7 u829 r
set_option maxRecDepth 100000 in
set_option maxHeartbeats 4000000 in
theorem law32_DequeDeals_c (T : Nat → Prop) (W0 : World) (hT : ∀ k, T k → k < W0.heap.size) (hLv : LvP T W0) (n_0 : Int) (workers_ : Int) (y : Bool) (hM : law32_DequeDeals n_0 workers_ = some y) : Rets Tryd.prog No 4 [.int .i64 n_0, .int .i64 workers_] W0 (fun v w' => v = .bool y) := by
  refine enter (c := _) Tryd.func4 rfl T 96 Tryd.ntmps4 hT rfl fun a hS => ?_
  replace hS := hS.fact LvF (LvP.dn hLv)
  unfold law32_DequeDeals at hM
  refine wp_seq_k fun K198 hK198 => ?_
  refine r_list ?_
  refine wl rfl (ky (v := .bool false) hS (y_assign hS rfl) rfl rfl fun a hS => ?_)
  refine wpList_nil ?_
  try simp only [Exit.then, Exit.inBlock, ↓reduceIte, Nat.reduceEqDiff]
  refine hK198 _ _ ?_
  refine wp_seq_k fun K199 hK199 => ?_
  refine r_list ?_
  refine wl rfl (ky (v := .int .i64 workers_) hS (y_move hS rfl) rfl rfl fun a hS => ?_)
  obtain ⟨u829, hu829, hM⟩ := bd hM
  refine wl rfl (k_call hS ci13 rfl rfl (mill_Mod_c _ _ hS.dlt workers_ 6 _ hu829) fun _ w hR a hk hA => ?_)
  have he := Eq.symm hR
  subst he
  have hS := hA [] (fun r hr => by cases hr) List.Pairwise.nil
  refine wl rfl (ky (v := .int .i64 (IntKind.i64.wrap (1 + u829))) hS (y_int hS rfl rfl rfl) rfl rfl fun a hS => ?_)
  refine wl rfl (ky (v := .int .i64 (IntKind.i64.wrap (1 + u829))) hS (y_assign hS rfl) rfl rfl fun a hS => ?_)
  refine wpList_nil ?_
  try simp only [Exit.then, Exit.inBlock, ↓reduceIte, Nat.reduceEqDiff]
  refine hK199 _ _ ?_
  refine wp_seq_k fun K200 hK200 => ?_
  refine r_list ?_
  refine wl rfl (ky (v := .slice none 0 0) hS (y_assign hS rfl) rfl rfl fun a hS => ?_)
  refine wpList_nil ?_
  try simp only [Exit.then, Exit.inBlock, ↓reduceIte, Nat.reduceEqDiff]
  refine hK200 _ _ ?_
  refine seq_j (J := fun a w => ∃ (l867 : (List KeyD)) (v868 : Value) (cl869 : (List Value)), St W0 No T 96 [(5, .int .i64 (IntKind.i64.wrap (1 + u829))), (6, v868)] [.own v868 26 R_KeyD.size cl869] [RowsF R_KeyD cl869 l867, LvF] a w ∧ law32_DequeDeals_j7 u829 l867 = some y) ?_ ?_
  · skip
    refine wp_seq_k fun K504 hK504 => ?_
    refine r_list ?_
    refine wl rfl (ky (v := .int .i64 n_0) hS (y_move hS rfl) rfl rfl fun a hS => ?_)
    obtain ⟨u2004, hu2004, hM⟩ := bd hM
    refine wl rfl (k_call hS ci13 rfl rfl (mill_Mod_c _ _ hS.dlt n_0 40 _ hu2004) fun _ w hR a hk hA => ?_)
    have he := Eq.symm hR
    subst he
    have hS := hA [] (fun r hr => by cases hr) List.Pairwise.nil
    refine wl rfl (ky (v := .int .i64 0) hS (y_move hS rfl) rfl rfl fun a hS => ?_)
    refine wpList_nil ?_
    try simp only [Exit.then, Exit.inBlock, ↓reduceIte, Nat.reduceEqDiff]
    refine hK504 _ _ ?_
    refine wp_block ?_
    replace hS := hS.nilRow R_KeyD 26 (by decide)
    obtain ⟨r1, hl1, hMo1⟩ := bd hM
    refine wp_lp (fun s : (List KeyD) × Int => law32_DequeDeals_l8 u2004 s.1 s.2) (fun s a w => ∃ (l2021 : (List KeyD)) (g2025 : Int) (v2022 : Value) (cl2023 : (List Value)), (l2021, g2025) = s ∧ St W0 No T 96 [(5, .int .i64 (IntKind.i64.wrap (1 + u829))), (6, v2022), (19, .int .i64 u2004), (20, .int .i64 g2025)] [.own v2022 26 R_KeyD.size cl2023] [RowsF R_KeyD cl2023 l2021, LvF] a w) hl1 ⟨([] : List KeyD), 0, (.slice none 0 0), ([]), rfl, (hS.meet [0] (by decide) ⟨rfl, rfl, rfl, rfl, trivial⟩ ⟨rfl, trivial⟩ ⟨⟨0, rfl⟩, ⟨1, rfl⟩, trivial⟩)⟩ ?_
    rintro s a w f1 ⟨l2021, g2025, v2022, cl2023, rfl, hS⟩ hM hf1
    have hM : law32_DequeDeals_l8 u2004 l2021 g2025 = some f1 := hM
    unfold law32_DequeDeals_l8 at hM
    refine wp_seq_k fun K513 hK513 => ?_
    refine r_list ?_
    refine wl rfl (ky (v := .bool (decide ((g2025 : Int) < u2004))) hS (y_int hS rfl rfl rfl) rfl rfl fun a hS => ?_)
    refine wpList_nil ?_
    try simp only [Exit.then, Exit.inBlock, ↓reduceIte, Nat.reduceEqDiff]
    refine hK513 _ _ ?_
    refine wp_seq_k fun K514 hK514 => ?_
    rcases bool2 (decide ((g2025 : Int) < u2004)) with hb2041 | hb2041
    · replace hM := ct hb2041 hM
      refine c_t hS rfl hb2041 ?_
      refine wp_skip ?_
      try simp only [Exit.then, Exit.inBlock, ↓reduceIte, Nat.reduceEqDiff]
      refine hK514 _ _ ?_
      refine wp_seq_k fun K515 hK515 => ?_
      refine wp_block ?_
      refine wp_seq_k fun K516 hK516 => ?_
      refine r_list ?_
      refine wl rfl (ky (v := .int .i64 g2025) hS (y_move hS rfl) rfl rfl fun a hS => ?_)
      refine wl rfl (ky (v := .int .i64 g2025) hS (y_assign hS rfl) rfl rfl fun a hS => ?_)
      refine wpList_nil ?_
      try simp only [Exit.then, Exit.inBlock, ↓reduceIte, Nat.reduceEqDiff]
      refine hK516 _ _ ?_
      refine r_list ?_
      refine wl rfl (ky (v := v2022) hS (y_move hS rfl) rfl rfl fun a hS => ?_)
      refine wl rfl (ky (v := .int .i64 g2025) hS (y_move hS rfl) rfl rfl fun a hS => ?_)
      obtain ⟨u2042, hu2042, hM⟩ := bd hM
      refine wl rfl (k_call hS ci14 rfl rfl (ref23_Cell_c _ _ hS.dlt (hS.get 1 rfl) g2025 _ hu2042) fun _ w hR a hk hA => ?_)
      have he := Eq.symm hR
      subst he
      have hS := hA [] (fun r hr => by cases hr) List.Pairwise.nil
      refine wl rfl (k_bslice (ps := [(0, .tmp 25)]) hS el22 ze26 (zl := [.int .i64 0, .string (ByteArray.mk #[])]) (by kernel_rfl) rfl (us := [[.int .i64 u2042.Kind, .string u2042.Text]]) ⟨rfl, trivial⟩ (ws := [.int .i64 u2042.Kind, .string u2042.Text]) rfl rfl rfl rfl fun b2044 a w hk hS => ?_)
      replace hS := hS.lit (R := R_KeyD) (us := [.int .i64 u2042.Kind, .string u2042.Text]) (xs := [u2042]) 0 rfl (by decide) (RowsOk.one_ (R := R_KeyD) (x := u2042) rfl) rfl rfl
      replace hS := hS.freeze (R := R_KeyD) 0 rfl 0 rfl
      obtain ⟨hg2046, hM⟩ := gd_some hM
      refine wl rfl (k_apps (R := R_KeyD) (xs := l2021) (ys := [u2042]) hS el22 (by decide) (by decide) rfl rfl 0 rfl 2 rfl 0 rfl hg2046 rfl fun v2047 cl2048 a w hk hS => ?_)
      refine wl rfl (ky (v := v2047) hS (y_assign hS rfl) rfl rfl fun a hS => ?_)
      refine wpList_nil ?_
      try simp only [Exit.then, Exit.inBlock, ↓reduceIte, Nat.reduceEqDiff]
      refine hK515 _ _ ?_
      refine r_list ?_
      refine wl rfl (ky (v := .int .i64 (IntKind.i64.wrap (g2025 + 1))) hS (y_int hS rfl rfl rfl) rfl rfl fun a hS => ?_)
      refine wl rfl (ky (v := .int .i64 (IntKind.i64.wrap (g2025 + 1))) hS (y_move hS rfl) rfl rfl fun a hS => ?_)
      refine wpList_nil ?_
      try simp only [Exit.then, Exit.inBlock, ↓reduceIte, Nat.reduceEqDiff]
      exact ⟨((l2021 ++ ([u2042])), IntKind.i64.wrap (g2025 + 1)), (Option.some.inj hM).symm, (l2021 ++ ([u2042])), (IntKind.i64.wrap (g2025 + 1)), v2047, cl2048, rfl, (hS.meet [0] (by decide) ⟨rfl, rfl, rfl, rfl, trivial⟩ ⟨rfl, trivial⟩ ⟨⟨0, rfl⟩, ⟨4, rfl⟩, trivial⟩)⟩
    · replace hM := cf hb2041 hM
      refine c_f hS rfl hb2041 ?_
      refine wp_exit ?_
      try simp only [Exit.then, Exit.inBlock, ↓reduceIte, Nat.reduceEqDiff]
      injection hM with hM
      subst hM
      have hr := hf1 _ rfl
      subst hr
      have hM : law32_DequeDeals_j7 u829 l2021 = some y := hMo1
      exact ⟨l2021, v2022, cl2023, (hS.meet [0] (by decide) ⟨rfl, rfl, trivial⟩ ⟨rfl, trivial⟩ ⟨⟨0, rfl⟩, ⟨1, rfl⟩, trivial⟩), hM⟩
  · rintro a w ⟨l867, v868, cl869, hS, hM⟩
    unfold law32_DequeDeals_j7 at hM
    refine wp_seq_k fun K210 hK210 => ?_
    refine r_list ?_
    refine wl rfl (ky (v := v868) hS (y_move hS rfl) rfl rfl fun a hS => ?_)
    refine wl rfl (ky (v := .int .i64 (IntKind.i64.wrap (1 + u829))) hS (y_move hS rfl) rfl rfl fun a hS => ?_)
    replace hS := hS.freeze (R := R_KeyD) 0 rfl 0 rfl
    obtain ⟨u871, hu871, hM⟩ := bd hM
    refine wl rfl (k_call hS ci24 rfl rfl (deque_Deal_c _ _ hS.dlt (hS.get 2 rfl) l867 (IntKind.i64.wrap (1 + u829)) _ (hS.get 0 rfl) _ hu871) fun _ w hR a hk hA => ?_)
    obtain ⟨vz872_2, clz872_3, he, ⟨hOvz872_2, hFvz872_2, hRvz872_2⟩⟩ := hR
    replace he := he.symm
    subst he
    have hS := hA [.own vz872_2 24 R_DequeD.size clz872_3] (adds1 ⟨hOvz872_2, by decide⟩ hFvz872_2) (pw1 _)
    replace hS := hS.fact (RowsF R_DequeD clz872_3 u871.1) (hRvz872_2.keep (Kt.refl _ _) (dT_dT _))
    refine wl rfl (ky (v := .tuple #[vz872_2, .int .i64 u871.2]) hS (y_move hS rfl) rfl rfl fun a hS => ?_)
    refine wl rfl (ky (v := vz872_2) hS (y_ex hS rfl rfl) rfl rfl fun a hS => ?_)
    refine wl rfl (ky (v := .int .i64 u871.2) hS (y_ex hS rfl rfl) rfl rfl fun a hS => ?_)
    refine wl rfl (ky (v := vz872_2) hS (y_assign hS rfl) rfl rfl fun a hS => ?_)
    refine wl rfl (ky (v := .int .i64 u871.2) hS (y_assign hS rfl) rfl rfl fun a hS => ?_)
    refine wpList_nil ?_
    try simp only [Exit.then, Exit.inBlock, ↓reduceIte, Nat.reduceEqDiff]
    refine hK210 _ _ ?_
    refine wp_seq_k fun K211 hK211 => ?_
    refine wp_seq_k fun K212 hK212 => ?_
    refine r_list ?_
    refine wl rfl (ky (v := .int .i64 u871.2) hS (y_move hS rfl) rfl rfl fun a hS => ?_)
    refine wl rfl (ky (v := .bool ((u871.2 : Int) != 0)) hS (y_int hS rfl rfl rfl) rfl rfl fun a hS => ?_)
    refine wl rfl (ky (v := .bool ((u871.2 : Int) != 0)) hS (y_move hS rfl) rfl rfl fun a hS => ?_)
    rcases bool2 ((u871.2 : Int) != 0) with hb875 | hb875
    · replace hM := ct hb875 hM
      refine wn hS rfl rfl rfl hb875 rfl rfl fun a hS => ?_
      refine wn hS rfl rfl rfl hb875 rfl rfl fun a hS => ?_
      refine wn hS rfl rfl rfl hb875 rfl rfl fun a hS => ?_
      refine wn hS rfl rfl rfl hb875 rfl rfl fun a hS => ?_
      refine wl rfl (ky (v := .bool true) hS (y_pickt hS rfl hb875 rfl) rfl rfl fun a hS => ?_)
      refine wpList_nil ?_
      try simp only [Exit.then, Exit.inBlock, ↓reduceIte, Nat.reduceEqDiff]
      refine hK212 _ _ ?_
      refine c_t hS rfl rfl ?_
      refine wp_seq_k fun K213 hK213 => ?_
      refine r_list ?_
      refine wl rfl (ky (v := .bool false) hS (y_assign hS rfl) rfl rfl fun a hS => ?_)
      refine wpList_nil ?_
      try simp only [Exit.then, Exit.inBlock, ↓reduceIte, Nat.reduceEqDiff]
      refine hK213 _ _ ?_
      refine wp_ret ?_
      injection hM with hM
      subst hM
      try simp only [Exit.then, Exit.inBlock, ↓reduceIte, Nat.reduceEqDiff]
      refine ret_ok hS Tryd.results4 (res_tmp hS rfl res_nil) ?_
      exact rfl
    · replace hM := cf hb875 hM
      refine wg hS rfl rfl rfl hb875 (ky (v := vz872_2) hS (y_move hS rfl) rfl rfl fun a hS => ?_)
      refine wg hS rfl rfl rfl hb875 (ky (v := .int .i64 (u871.1.length : Int)) hS (y_leno (R := R_DequeD) (xs := u871.1) hS sl30 rfl 0 rfl 0 rfl) rfl rfl fun a hS => ?_)
      refine wg hS rfl rfl rfl hb875 (ky (v := .int .i64 (IntKind.i64.wrap (1 + u829))) hS (y_move hS rfl) rfl rfl fun a hS => ?_)
      refine wg hS rfl rfl rfl hb875 (ky (v := .bool (((u871.1.length : Int) : Int) != (IntKind.i64.wrap (1 + u829)))) hS (y_int hS rfl rfl rfl) rfl rfl fun a hS => ?_)
      refine wl rfl (ky (v := .bool (((u871.1.length : Int) : Int) != (IntKind.i64.wrap (1 + u829)))) hS (y_pickf hS rfl hb875 rfl) rfl rfl fun a hS => ?_)
      refine wpList_nil ?_
      try simp only [Exit.then, Exit.inBlock, ↓reduceIte, Nat.reduceEqDiff]
      refine hK212 _ _ ?_
      rcases bool2 (((u871.1.length : Int) : Int) != (IntKind.i64.wrap (1 + u829))) with hb876 | hb876
      · replace hM := ct hb876 hM
        refine c_t hS rfl hb876 ?_
        refine wp_seq_k fun K214 hK214 => ?_
        refine r_list ?_
        refine wl rfl (ky (v := .bool false) hS (y_assign hS rfl) rfl rfl fun a hS => ?_)
        refine wpList_nil ?_
        try simp only [Exit.then, Exit.inBlock, ↓reduceIte, Nat.reduceEqDiff]
        refine hK214 _ _ ?_
        refine wp_ret ?_
        injection hM with hM
        subst hM
        try simp only [Exit.then, Exit.inBlock, ↓reduceIte, Nat.reduceEqDiff]
        refine ret_ok hS Tryd.results4 (res_tmp hS rfl res_nil) ?_
        exact rfl
      · replace hM := cf hb876 hM
        refine c_f hS rfl hb876 ?_
        refine wp_skip ?_
        try simp only [Exit.then, Exit.inBlock, ↓reduceIte, Nat.reduceEqDiff]
        refine hK211 _ _ ?_
        refine wp_seq_k fun K215 hK215 => ?_
        refine r_list ?_
        refine wl rfl (ky (v := .int .i64 0) hS (y_assign hS rfl) rfl rfl fun a hS => ?_)
        refine wpList_nil ?_
        try simp only [Exit.then, Exit.inBlock, ↓reduceIte, Nat.reduceEqDiff]
        refine hK215 _ _ ?_
        refine seq_j (J := fun a w => ∃ (sum1263 : Int), St W0 No T 96 [(5, .int .i64 (IntKind.i64.wrap (1 + u829))), (6, v868), (8, vz872_2), (10, .int .i64 sum1263)] [.own vz872_2 24 R_DequeD.size clz872_3] [SlF R_KeyD v868 l867, RowsF R_DequeD clz872_3 u871.1, LvF] a w ∧ law32_DequeDeals_j2 u829 l867 u871 sum1263 = some y) ?_ ?_
        · skip
          refine wp_seq_k fun K329 hK329 => ?_
          refine r_list ?_
          refine wl rfl (ky (v := vz872_2) hS (y_move hS rfl) rfl rfl fun a hS => ?_)
          refine wl rfl (ky (v := .int .i64 (u871.1.length : Int)) hS (y_leno (R := R_DequeD) (xs := u871.1) hS sl30 rfl 0 rfl 0 rfl) rfl rfl fun a hS => ?_)
          refine wl rfl (ky (v := .int .i64 0) hS (y_move hS rfl) rfl rfl fun a hS => ?_)
          refine wpList_nil ?_
          try simp only [Exit.then, Exit.inBlock, ↓reduceIte, Nat.reduceEqDiff]
          refine hK329 _ _ ?_
          refine wp_block ?_
          obtain ⟨r1, hl1, hMo1⟩ := bd hM
          refine wp_lp (fun s : Int × Int => law32_DequeDeals_l6 u829 u871 s.1 s.2) (fun s a w => ∃ (sum1601 : Int) (g1602 : Int), (sum1601, g1602) = s ∧ St W0 No T 96 [(5, .int .i64 (IntKind.i64.wrap (1 + u829))), (6, v868), (8, vz872_2), (10, .int .i64 sum1601), (43, vz872_2), (44, .int .i64 (u871.1.length : Int)), (45, .int .i64 g1602)] [.own vz872_2 24 R_DequeD.size clz872_3] [SlF R_KeyD v868 l867, RowsF R_DequeD clz872_3 u871.1, LvF] a w) hl1 ⟨0, 0, rfl, (hS.meet [0] (by decide) ⟨rfl, rfl, rfl, rfl, rfl, rfl, rfl, trivial⟩ ⟨rfl, trivial⟩ ⟨⟨1, rfl⟩, ⟨0, rfl⟩, ⟨3, rfl⟩, trivial⟩)⟩ ?_
          rintro s a w f1 ⟨sum1601, g1602, rfl, hS⟩ hM hf1
          have hM : law32_DequeDeals_l6 u829 u871 sum1601 g1602 = some f1 := hM
          unfold law32_DequeDeals_l6 at hM
          refine wp_seq_k fun K442 hK442 => ?_
          refine r_list ?_
          refine wl rfl (ky (v := .bool (decide ((g1602 : Int) < (u871.1.length : Int)))) hS (y_int hS rfl rfl rfl) rfl rfl fun a hS => ?_)
          refine wpList_nil ?_
          try simp only [Exit.then, Exit.inBlock, ↓reduceIte, Nat.reduceEqDiff]
          refine hK442 _ _ ?_
          refine wp_seq_k fun K443 hK443 => ?_
          rcases bool2 (decide ((g1602 : Int) < (u871.1.length : Int))) with hb1795 | hb1795
          · replace hM := ct hb1795 hM
            refine c_t hS rfl hb1795 ?_
            refine wp_skip ?_
            try simp only [Exit.then, Exit.inBlock, ↓reduceIte, Nat.reduceEqDiff]
            refine hK443 _ _ ?_
            refine seq_j (J := fun a w => ∃ (sum1890 : Int), St W0 No T 96 [(5, .int .i64 (IntKind.i64.wrap (1 + u829))), (6, v868), (8, vz872_2), (10, .int .i64 sum1890), (43, vz872_2), (44, .int .i64 (u871.1.length : Int)), (45, .int .i64 g1602)] [.own vz872_2 24 R_DequeD.size clz872_3] [SlF R_KeyD v868 l867, RowsF R_DequeD clz872_3 u871.1, LvF] a w ∧ law32_DequeDeals_j3 g1602 sum1890 = some f1) ?_ ?_
            · skip
              refine wp_block ?_
              refine wp_seq_k fun K471 hK471 => ?_
              refine r_list ?_
              refine wl rfl (ky (v := .int .i64 g1602) hS (y_move hS rfl) rfl rfl fun a hS => ?_)
              obtain ⟨e1891, he1891, hM⟩ := bd hM
              refine wl rfl (k_indexo (R := R_DequeD) hS sl30 ty24 rfl rfl 0 rfl 1 rfl he1891 rfl fun b1893 o1894 p1899 cs1896 hr1895 hO1897 hC1898 a hS => ?_)
              obtain ⟨v1892, rfl, hv1892⟩ := hr1895
              replace hS := hS.fact (SlF R_KeyD v1892 e1891.Keys) hv1892
              refine wl rfl (ky (v := .agg #[v1892]) hS (y_loado (k := 0) hS ty24 0 rfl hO1897 hC1898 rfl id (us := [v1892]) rfl rfl (fun h => by cases h)) rfl rfl fun a hS => ?_)
              refine wl rfl (k_alloc hS ze24 rfl fun b1900 hnb1902 a w hk hS => ?_)
              refine wl rfl (ky (v := .int .i64 g1602) hS (y_assign hS rfl) rfl rfl fun a hS => ?_)
              refine wl rfl (k_store hS rfl rfl (us := [v1892]) rfl ty24 0 rfl rfl rfl (oc (SlR.one ((hS.get 0 rfl) : SlR R_KeyD _ _ _ _)) on) fun w hk hS => ?_)
              refine wpList_nil ?_
              try simp only [Exit.then, Exit.inBlock, ↓reduceIte, Nat.reduceEqDiff]
              refine hK471 _ _ ?_
              refine seq_j (J := fun a w => St W0 No T 96 [(5, .int .i64 (IntKind.i64.wrap (1 + u829))), (6, v868), (8, vz872_2), (10, .int .i64 sum1601), (12, .pointer (some ⟨b1900, 0, none⟩)), (43, vz872_2), (44, .int .i64 (u871.1.length : Int)), (45, .int .i64 g1602)] [.own vz872_2 24 R_DequeD.size clz872_3, .box b1900 [v1892] 24] [SlF R_KeyD v868 l867, RowsF R_DequeD clz872_3 u871.1, SlF R_KeyD v1892 e1891.Keys, LvF] a w ∧ law32_DequeDeals_j4 sum1601 g1602 e1891 = some f1) ?_ ?_
              · skip
                refine wp_seq_k fun K485 hK485 => ?_
                refine r_list ?_
                refine wl rfl (ky (v := .pointer (some ⟨b1900, 0 + 0, none⟩)) hS (y_fld hS rfl fl24_0) rfl rfl fun a hS => ?_)
                refine wl rfl (ky (v := v1892) hS (y_load hS rfl ty22 0 rfl id (us := [v1892]) rfl rfl (fun _ => rfl)) rfl rfl fun a hS => ?_)
                refine wl rfl (ky (v := .int .i64 (e1891.Keys.length : Int)) hS (y_len (R := R_KeyD) (xs := e1891.Keys) hS sl22 rfl 0 rfl) rfl rfl fun a hS => ?_)
                refine wl rfl (ky (v := .int .i64 0) hS (y_move hS rfl) rfl rfl fun a hS => ?_)
                refine wpList_nil ?_
                try simp only [Exit.then, Exit.inBlock, ↓reduceIte, Nat.reduceEqDiff]
                refine hK485 _ _ ?_
                refine wp_block ?_
                obtain ⟨r2, hl2, hMo2⟩ := bd hM
                refine wp_lp (fun s : Int => law32_DequeDeals_l5 u829 g1602 e1891 s) (fun s a w => ∃ (g1964 : Int), g1964 = s ∧ St W0 No T 96 [(5, .int .i64 (IntKind.i64.wrap (1 + u829))), (6, v868), (8, vz872_2), (10, .int .i64 sum1601), (11, .int .i64 g1602), (12, .pointer (some ⟨b1900, 0, none⟩)), (43, vz872_2), (44, .int .i64 (u871.1.length : Int)), (45, .int .i64 g1602), (51, v1892), (52, .int .i64 (e1891.Keys.length : Int)), (53, .int .i64 g1964)] [.own vz872_2 24 R_DequeD.size clz872_3, .box b1900 [v1892] 24] [SlF R_KeyD v868 l867, RowsF R_DequeD clz872_3 u871.1, SlF R_KeyD v1892 e1891.Keys, LvF] a w) hl2 ⟨0, rfl, (hS.meet [1, 0] (by decide) ⟨rfl, rfl, rfl, rfl, rfl, rfl, rfl, rfl, rfl, rfl, rfl, rfl, trivial⟩ ⟨rfl, rfl, trivial⟩ ⟨⟨1, rfl⟩, ⟨2, rfl⟩, ⟨0, rfl⟩, ⟨3, rfl⟩, trivial⟩)⟩ ?_
                rintro s a w f2 ⟨g1964, rfl, hS⟩ hM hf2
                have hM : law32_DequeDeals_l5 u829 g1602 e1891 g1964 = some f2 := hM
                unfold law32_DequeDeals_l5 at hM
                refine wp_seq_k fun K498 hK498 => ?_
                refine r_list ?_
                refine wl rfl (ky (v := .bool (decide ((g1964 : Int) < (e1891.Keys.length : Int)))) hS (y_int hS rfl rfl rfl) rfl rfl fun a hS => ?_)
                refine wpList_nil ?_
                try simp only [Exit.then, Exit.inBlock, ↓reduceIte, Nat.reduceEqDiff]
                refine hK498 _ _ ?_
                refine wp_seq_k fun K499 hK499 => ?_
                rcases bool2 (decide ((g1964 : Int) < (e1891.Keys.length : Int))) with hb1985 | hb1985
                · replace hM := ct hb1985 hM
                  refine c_t hS rfl hb1985 ?_
                  refine wp_skip ?_
                  try simp only [Exit.then, Exit.inBlock, ↓reduceIte, Nat.reduceEqDiff]
                  refine hK499 _ _ ?_
                  refine wp_seq_k fun K500 hK500 => ?_
                  refine wp_block ?_
                  refine wp_seq_k fun K501 hK501 => ?_
                  refine r_list ?_
                  refine wl rfl (ky (v := .int .i64 g1964) hS (y_move hS rfl) rfl rfl fun a hS => ?_)
                  obtain ⟨e1986, he1986, hM⟩ := bd hM
                  refine wl rfl (k_index (R := R_KeyD) hS sl22 ty26 rfl rfl 2 rfl he1986 rfl fun b1987 o1988 cs1990 hr1989 a hS => ?_)
                  obtain rfl := hr1989
                  refine wl rfl (ky (v := .agg #[.int .i64 e1986.Kind, .string e1986.Text]) hS (y_loadc (k := 0) hS ty26 0 rfl rfl (fun _ h => h.elim) (us := [.int .i64 e1986.Kind, .string e1986.Text]) rfl rfl (fun h => by cases h)) rfl rfl fun a hS => ?_)
                  refine wl rfl (k_alloc hS ze26 rfl fun b1992 hnb1994 a w hk hS => ?_)
                  refine wl rfl (ky (v := .int .i64 g1964) hS (y_assign hS rfl) rfl rfl fun a hS => ?_)
                  refine wl rfl (k_store hS rfl rfl (us := [.int .i64 e1986.Kind, .string e1986.Text]) rfl ty26 0 rfl rfl rfl (oc rfl (oc rfl on)) fun w hk hS => ?_)
                  refine wpList_nil ?_
                  try simp only [Exit.then, Exit.inBlock, ↓reduceIte, Nat.reduceEqDiff]
                  refine hK501 _ _ ?_
                  refine wp_seq_k fun K502 hK502 => ?_
                  refine draws [] hS mixed rfl (fun c a d v w h => by cases d <;> exact h) fun w hQ hS => ?_
                  refine dy (l := []) 0 (v := .agg #[.int .i64 e1986.Kind, .string e1986.Text]) rfl (by kernel_rfl) (by kernel_rfl) (by kernel_rfl) (by kernel_rfl) hQ hS (y_load hS rfl ty26 0 rfl eo_nil (us := [.int .i64 e1986.Kind, .string e1986.Text]) rfl rfl (fun h => by cases h)) rfl rfl rfl fun a hS => ?_
                  refine dy 1 (v := .int .i64 g1602) rfl (by kernel_rfl) (by kernel_rfl) (by kernel_rfl) rfl hQ hS (y_move hS rfl) rfl rfl rfl fun a hS => ?_
                  refine dy 2 (v := .int .i64 g1964) rfl (by kernel_rfl) (by kernel_rfl) (by kernel_rfl) rfl hQ hS (y_move hS rfl) rfl rfl rfl fun a hS => ?_
                  refine dy 3 (v := .int .i64 (IntKind.i64.wrap (1 + u829))) rfl (by kernel_rfl) (by kernel_rfl) (by kernel_rfl) rfl hQ hS (y_move hS rfl) rfl rfl rfl fun a hS => ?_
                  refine dy 4 (v := .int .i64 (IntKind.i64.wrap (g1964 * (IntKind.i64.wrap (1 + u829))))) rfl (by kernel_rfl) (by kernel_rfl) (by kernel_rfl) rfl hQ hS (y_int hS rfl rfl rfl) rfl rfl rfl fun a hS => ?_
                  refine dy 5 (v := .int .i64 (IntKind.i64.wrap (g1602 + (IntKind.i64.wrap (g1964 * (IntKind.i64.wrap (1 + u829))))))) rfl (by kernel_rfl) (by kernel_rfl) (by kernel_rfl) rfl hQ hS (y_int hS rfl rfl rfl) rfl rfl rfl fun a hS => ?_
                  obtain ⟨u2001, hu2001, hM⟩ := bd hM
                  refine wpE_one (i := 6) rfl (by kernel_rfl) rfl (k_call hS ci14 rfl rfl (ref23_Cell_c _ _ hS.dlt (hS.get 4 rfl) (IntKind.i64.wrap (g1602 + (IntKind.i64.wrap (g1964 * (IntKind.i64.wrap (1 + u829)))))) _ hu2001) fun _ w hR a hk hA => ⟨stN (hk), ?_⟩)
                  have he := Eq.symm hR
                  subst he
                  have hS := hA [] (fun r hr => by cases hr) List.Pairwise.nil
                  refine dy 7 (v := .bool (!((e1986.Kind : Int) == u2001.Kind && e1986.Text.toList == u2001.Text.toList))) rfl (by kernel_rfl) (by kernel_rfl) (by kernel_rfl) rfl hQ hS (eq26n hS rfl rfl) rfl rfl rfl fun a hS => ?_
                  refine wpE_done (by kernel_rfl) ?_ _
                  try simp only [Exit.then, Exit.inBlock, ↓reduceIte, Nat.reduceEqDiff]
                  refine hK502 _ _ ?_
                  rcases bool2 (!((e1986.Kind : Int) == u2001.Kind && e1986.Text.toList == u2001.Text.toList)) with hb2003 | hb2003
                  · replace hM := ct hb2003 hM
                    refine c_t hS rfl hb2003 ?_
                    refine wp_seq_k fun K503 hK503 => ?_
                    refine r_list ?_
                    refine wl rfl (ky (v := .bool false) hS (y_assign hS rfl) rfl rfl fun a hS => ?_)
                    refine wpList_nil ?_
                    try simp only [Exit.then, Exit.inBlock, ↓reduceIte, Nat.reduceEqDiff]
                    refine hK503 _ _ ?_
                    refine wp_ret ?_
                    injection hM with hM
                    subst hM
                    have hr := hf2 _ rfl
                    subst hr
                    replace hMo2 := el_out hMo2
                    have hM := hMo2
                    injection hM with hM
                    subst hM
                    have hr := hf1 _ rfl
                    subst hr
                    replace hMo1 := el_out hMo1
                    have hM := hMo1
                    injection hM with hM
                    subst hM
                    try simp only [Exit.then, Exit.inBlock, ↓reduceIte, Nat.reduceEqDiff]
                    refine ret_ok hS Tryd.results4 (res_tmp hS rfl res_nil) ?_
                    exact rfl
                  · replace hM := cf hb2003 hM
                    refine c_f hS rfl hb2003 ?_
                    refine wp_skip ?_
                    try simp only [Exit.then, Exit.inBlock, ↓reduceIte, Nat.reduceEqDiff]
                    refine hK500 _ _ ?_
                    refine r_list ?_
                    refine wl rfl (ky (v := .int .i64 (IntKind.i64.wrap (g1964 + 1))) hS (y_int hS rfl rfl rfl) rfl rfl fun a hS => ?_)
                    refine wl rfl (ky (v := .int .i64 (IntKind.i64.wrap (g1964 + 1))) hS (y_move hS rfl) rfl rfl fun a hS => ?_)
                    refine wpList_nil ?_
                    try simp only [Exit.then, Exit.inBlock, ↓reduceIte, Nat.reduceEqDiff]
                    exact ⟨IntKind.i64.wrap (g1964 + 1), (Option.some.inj hM).symm, (IntKind.i64.wrap (g1964 + 1)), rfl, (hS.meet [1, 2] (by decide) ⟨rfl, rfl, rfl, rfl, rfl, rfl, rfl, rfl, rfl, rfl, rfl, rfl, trivial⟩ ⟨rfl, rfl, trivial⟩ ⟨⟨1, rfl⟩, ⟨2, rfl⟩, ⟨3, rfl⟩, ⟨4, rfl⟩, trivial⟩)⟩
                · replace hM := cf hb1985 hM
                  refine c_f hS rfl hb1985 ?_
                  refine wp_exit ?_
                  try simp only [Exit.then, Exit.inBlock, ↓reduceIte, Nat.reduceEqDiff]
                  injection hM with hM
                  subst hM
                  have hr := hf2 _ rfl
                  subst hr
                  replace hMo2 := el_go hMo2
                  have hM : law32_DequeDeals_j4 sum1601 g1602 e1891 = some f1 := hMo2
                  exact ⟨(hS.meet [0, 1] (by decide) ⟨rfl, rfl, rfl, rfl, rfl, rfl, rfl, rfl, trivial⟩ ⟨rfl, rfl, trivial⟩ ⟨⟨0, rfl⟩, ⟨1, rfl⟩, ⟨2, rfl⟩, ⟨3, rfl⟩, trivial⟩), hM⟩
              · rintro a w ⟨hS, hM⟩
                unfold law32_DequeDeals_j4 at hM
                refine r_list ?_
                refine wl rfl (ky (v := .int .i64 sum1601) hS (y_move hS rfl) rfl rfl fun a hS => ?_)
                refine wl rfl (ky (v := .pointer (some ⟨b1900, 0 + 0, none⟩)) hS (y_fld hS rfl fl24_0) rfl rfl fun a hS => ?_)
                refine wl rfl (ky (v := v1892) hS (y_load hS rfl ty22 1 rfl id (us := [v1892]) rfl rfl (fun _ => rfl)) rfl rfl fun a hS => ?_)
                refine wl rfl (ky (v := .int .i64 (e1891.Keys.length : Int)) hS (y_len (R := R_KeyD) (xs := e1891.Keys) hS sl22 rfl 2 rfl) rfl rfl fun a hS => ?_)
                refine wl rfl (ky (v := .int .i64 (IntKind.i64.wrap (sum1601 + (e1891.Keys.length : Int)))) hS (y_int hS rfl rfl rfl) rfl rfl fun a hS => ?_)
                refine wl rfl (ky (v := .int .i64 (IntKind.i64.wrap (sum1601 + (e1891.Keys.length : Int)))) hS (y_assign hS rfl) rfl rfl fun a hS => ?_)
                refine wpList_nil ?_
                try simp only [Exit.then, Exit.inBlock, ↓reduceIte, Nat.reduceEqDiff]
                exact ⟨(IntKind.i64.wrap (sum1601 + (e1891.Keys.length : Int))), (hS.meet [0] (by decide) ⟨rfl, rfl, rfl, rfl, rfl, rfl, rfl, trivial⟩ ⟨rfl, trivial⟩ ⟨⟨0, rfl⟩, ⟨1, rfl⟩, ⟨3, rfl⟩, trivial⟩), hM⟩
            · rintro a w ⟨sum1890, hS, hM⟩
              unfold law32_DequeDeals_j3 at hM
              refine r_list ?_
              refine wl rfl (ky (v := .int .i64 (IntKind.i64.wrap (g1602 + 1))) hS (y_int hS rfl rfl rfl) rfl rfl fun a hS => ?_)
              refine wl rfl (ky (v := .int .i64 (IntKind.i64.wrap (g1602 + 1))) hS (y_move hS rfl) rfl rfl fun a hS => ?_)
              refine wpList_nil ?_
              try simp only [Exit.then, Exit.inBlock, ↓reduceIte, Nat.reduceEqDiff]
              exact ⟨(sum1890, IntKind.i64.wrap (g1602 + 1)), (Option.some.inj hM).symm, sum1890, (IntKind.i64.wrap (g1602 + 1)), rfl, (hS.meet [0] (by decide) ⟨rfl, rfl, rfl, rfl, rfl, rfl, rfl, trivial⟩ ⟨rfl, trivial⟩ ⟨⟨0, rfl⟩, ⟨1, rfl⟩, ⟨2, rfl⟩, trivial⟩)⟩
          · replace hM := cf hb1795 hM
            refine c_f hS rfl hb1795 ?_
            refine wp_exit ?_
            try simp only [Exit.then, Exit.inBlock, ↓reduceIte, Nat.reduceEqDiff]
            injection hM with hM
            subst hM
            have hr := hf1 _ rfl
            subst hr
            replace hMo1 := el_go hMo1
            have hM : law32_DequeDeals_j2 u829 l867 u871 sum1601 = some y := hMo1
            exact ⟨sum1601, (hS.meet [0] (by decide) ⟨rfl, rfl, rfl, rfl, trivial⟩ ⟨rfl, trivial⟩ ⟨⟨0, rfl⟩, ⟨1, rfl⟩, ⟨2, rfl⟩, trivial⟩), hM⟩
        · rintro a w ⟨sum1263, hS, hM⟩
          unfold law32_DequeDeals_j2 at hM
          refine seq_j (J := fun a w => ∃ (g1360 : Bool), St W0 No T 96 [(4, .bool g1360)] [] [LvF] a w ∧ law32_DequeDeals_j1 g1360 = some y) ?_ ?_
          · skip
            refine draws [] hS mixed rfl (fun c a d v w h => by cases d <;> exact h) fun w hQ hS => ?_
            refine dy 0 (v := .int .i64 sum1263) rfl (by kernel_rfl) (by kernel_rfl) (by kernel_rfl) rfl hQ hS (y_move hS rfl) rfl rfl rfl fun a hS => ?_
            refine dy 1 (v := v868) rfl (by kernel_rfl) (by kernel_rfl) (by kernel_rfl) rfl hQ hS (y_move hS rfl) rfl rfl rfl fun a hS => ?_
            refine dy 2 (v := .int .i64 (l867.length : Int)) rfl (by kernel_rfl) (by kernel_rfl) (by kernel_rfl) rfl hQ hS (y_len (R := R_KeyD) (xs := l867) hS sl22 rfl 0 rfl) rfl rfl rfl fun a hS => ?_
            refine dy 3 (v := .bool ((sum1263 : Int) == (l867.length : Int))) rfl (by kernel_rfl) (by kernel_rfl) (by kernel_rfl) rfl hQ hS (y_int hS rfl rfl rfl) rfl rfl rfl fun a hS => ?_
            refine dy 4 (v := .bool ((sum1263 : Int) == (l867.length : Int))) rfl (by kernel_rfl) (by kernel_rfl) (by kernel_rfl) rfl hQ hS (y_move hS rfl) rfl rfl rfl fun a hS => ?_
            rcases bool2 ((sum1263 : Int) == (l867.length : Int)) with hb1385 | hb1385
            · replace hM := ct hb1385 hM
              refine dyg 5 (v := vz872_2) rfl (by kernel_rfl) (by kernel_rfl) (by kernel_rfl) rfl hQ hS (y_move hS rfl) rfl rfl rfl hb1385 rfl rfl fun a hS => ?_
              obtain ⟨e1386, he1386, hM⟩ := bd hM
              obtain ⟨b1388, o1389, p1394, cs1391, hr1390, hO1392, hC1393, hy1395⟩ := d_indexo (R := R_DequeD) hS sl30 ty24 0 rfl 1 rfl he1386
              obtain ⟨v1387, rfl, hv1387⟩ := hr1390
              replace hS := hS.fact (SlF R_KeyD v1387 e1386.Keys) hv1387
              refine dyg 6 (v := .pointer (some ⟨b1388, o1389, none⟩)) rfl (by kernel_rfl) (by kernel_rfl) (by kernel_rfl) rfl hQ hS (hy1395 rfl rfl) rfl rfl rfl hb1385 rfl rfl fun a hS => ?_
              refine dyg 7 (v := .pointer (some ⟨b1388, o1389 + 0, none⟩)) rfl (by kernel_rfl) (by kernel_rfl) (by kernel_rfl) rfl hQ hS (y_fld hS rfl fl24_0) rfl rfl rfl hb1385 rfl rfl fun a hS => ?_
              refine dyg (l := []) 8 (v := v1387) rfl (by kernel_rfl) (by kernel_rfl) (by kernel_rfl) (by kernel_rfl) hQ hS (y_loado (k := 0) hS ty22 0 rfl hO1392 hC1393 rfl eo_nil (us := [v1387]) rfl rfl (fun _ => rfl)) rfl rfl rfl hb1385 rfl rfl fun a hS => ?_
              refine dyg 9 (v := .int .i64 (e1386.Keys.length : Int)) rfl (by kernel_rfl) (by kernel_rfl) (by kernel_rfl) rfl hQ hS (y_len (R := R_KeyD) (xs := e1386.Keys) hS sl22 rfl 0 rfl) rfl rfl rfl hb1385 rfl rfl fun a hS => ?_
              refine dyg 10 (v := vz872_2) rfl (by kernel_rfl) (by kernel_rfl) (by kernel_rfl) rfl hQ hS (y_move hS rfl) rfl rfl rfl hb1385 rfl rfl fun a hS => ?_
              refine dyg 11 (v := .int .i64 (IntKind.i64.wrap (1 + u829))) rfl (by kernel_rfl) (by kernel_rfl) (by kernel_rfl) rfl hQ hS (y_move hS rfl) rfl rfl rfl hb1385 rfl rfl fun a hS => ?_
              refine dyg 12 (v := .int .i64 (IntKind.i64.wrap ((IntKind.i64.wrap (1 + u829)) - 1))) rfl (by kernel_rfl) (by kernel_rfl) (by kernel_rfl) rfl hQ hS (y_int hS rfl rfl rfl) rfl rfl rfl hb1385 rfl rfl fun a hS => ?_
              obtain ⟨e1396, he1396, hM⟩ := bd hM
              obtain ⟨b1398, o1399, p1404, cs1401, hr1400, hO1402, hC1403, hy1405⟩ := d_indexo (R := R_DequeD) hS sl30 ty24 0 rfl 2 rfl he1396
              obtain ⟨v1397, rfl, hv1397⟩ := hr1400
              replace hS := hS.fact (SlF R_KeyD v1397 e1396.Keys) hv1397
              refine dyg 13 (v := .pointer (some ⟨b1398, o1399, none⟩)) rfl (by kernel_rfl) (by kernel_rfl) (by kernel_rfl) rfl hQ hS (hy1405 rfl rfl) rfl rfl rfl hb1385 rfl rfl fun a hS => ?_
              refine dyg 14 (v := .pointer (some ⟨b1398, o1399 + 0, none⟩)) rfl (by kernel_rfl) (by kernel_rfl) (by kernel_rfl) rfl hQ hS (y_fld hS rfl fl24_0) rfl rfl rfl hb1385 rfl rfl fun a hS => ?_
              refine dyg (l := []) 15 (v := v1397) rfl (by kernel_rfl) (by kernel_rfl) (by kernel_rfl) (by kernel_rfl) hQ hS (y_loado (k := 0) hS ty22 0 rfl hO1402 hC1403 rfl eo_nil (us := [v1397]) rfl rfl (fun _ => rfl)) rfl rfl rfl hb1385 rfl rfl fun a hS => ?_
              refine dyg 16 (v := .int .i64 (e1396.Keys.length : Int)) rfl (by kernel_rfl) (by kernel_rfl) (by kernel_rfl) rfl hQ hS (y_len (R := R_KeyD) (xs := e1396.Keys) hS sl22 rfl 0 rfl) rfl rfl rfl hb1385 rfl rfl fun a hS => ?_
              refine dyg 17 (v := .int .i64 (IntKind.i64.wrap ((e1386.Keys.length : Int) - (e1396.Keys.length : Int)))) rfl (by kernel_rfl) (by kernel_rfl) (by kernel_rfl) rfl hQ hS (y_int hS rfl rfl rfl) rfl rfl rfl hb1385 rfl rfl fun a hS => ?_
              refine dyg 18 (v := .bool (decide ((IntKind.i64.wrap ((e1386.Keys.length : Int) - (e1396.Keys.length : Int)) : Int) ≤ 1))) rfl (by kernel_rfl) (by kernel_rfl) (by kernel_rfl) rfl hQ hS (y_int hS rfl rfl rfl) rfl rfl rfl hb1385 rfl rfl fun a hS => ?_
              refine dy 19 (v := .bool (decide ((IntKind.i64.wrap ((e1386.Keys.length : Int) - (e1396.Keys.length : Int)) : Int) ≤ 1))) rfl (by kernel_rfl) (by kernel_rfl) (by kernel_rfl) rfl hQ hS (y_pickt hS rfl hb1385 rfl) rfl rfl rfl fun a hS => ?_
              refine dy 20 (v := .bool (decide ((IntKind.i64.wrap ((e1386.Keys.length : Int) - (e1396.Keys.length : Int)) : Int) ≤ 1))) rfl (by kernel_rfl) (by kernel_rfl) (by kernel_rfl) rfl hQ hS (y_move hS rfl) rfl rfl rfl fun a hS => ?_
              rcases bool2 (decide ((IntKind.i64.wrap ((e1386.Keys.length : Int) - (e1396.Keys.length : Int)) : Int) ≤ 1)) with hb1406 | hb1406
              · replace hM := ct hb1406 hM
                obtain ⟨u1407, hu1407, hM⟩ := bd hM
                refine wpE_oneg (i := 21) rfl (by kernel_rfl) hS rfl rfl rfl hb1406 (k_call hS ci12 rfl rfl (law32_awake_c _ _ hS.dlt (hS.get 4 rfl) _ hu1407) fun _ w hR a hk hA => ⟨stN (hk), ?_⟩)
                have he := Eq.symm hR
                subst he
                have hS := hA [] (fun r hr => by cases hr) List.Pairwise.nil
                refine dy 22 (v := .bool u1407) rfl (by kernel_rfl) (by kernel_rfl) (by kernel_rfl) rfl hQ hS (y_pickt hS rfl hb1406 rfl) rfl rfl rfl fun a hS => ?_
                refine dy 23 (v := .bool u1407) rfl (by kernel_rfl) (by kernel_rfl) (by kernel_rfl) rfl hQ hS (y_assign hS rfl) rfl rfl rfl fun a hS => ?_
                refine wpE_done (by kernel_rfl) ?_ _
                try simp only [Exit.then, Exit.inBlock, ↓reduceIte, Nat.reduceEqDiff]
                exact ⟨u1407, (hS.meet [] (by decide) ⟨rfl, trivial⟩ trivial ⟨⟨4, rfl⟩, trivial⟩), hM⟩
              · replace hM := cf hb1406 hM
                refine dyn 21 rfl (by kernel_rfl) (by kernel_rfl) (by kernel_rfl) hQ hS rfl rfl rfl hb1406 rfl rfl fun a hS => ?_
                refine dy 22 (v := .bool false) rfl (by kernel_rfl) (by kernel_rfl) (by kernel_rfl) rfl hQ hS (y_pickf hS rfl hb1406 rfl) rfl rfl rfl fun a hS => ?_
                refine dy 23 (v := .bool false) rfl (by kernel_rfl) (by kernel_rfl) (by kernel_rfl) rfl hQ hS (y_assign hS rfl) rfl rfl rfl fun a hS => ?_
                refine wpE_done (by kernel_rfl) ?_ _
                try simp only [Exit.then, Exit.inBlock, ↓reduceIte, Nat.reduceEqDiff]
                exact ⟨false, (hS.meet [] (by decide) ⟨rfl, trivial⟩ trivial ⟨⟨4, rfl⟩, trivial⟩), hM⟩
            · replace hM := cf hb1385 hM
              refine dyn 5 rfl (by kernel_rfl) (by kernel_rfl) (by kernel_rfl) hQ hS rfl rfl rfl hb1385 rfl rfl fun a hS => ?_
              refine dyn 6 rfl (by kernel_rfl) (by kernel_rfl) (by kernel_rfl) hQ hS rfl rfl rfl hb1385 rfl rfl fun a hS => ?_
              refine dyn 7 rfl (by kernel_rfl) (by kernel_rfl) (by kernel_rfl) hQ hS rfl rfl rfl hb1385 rfl rfl fun a hS => ?_
              refine dyn 8 rfl (by kernel_rfl) (by kernel_rfl) (by kernel_rfl) hQ hS rfl rfl rfl hb1385 rfl rfl fun a hS => ?_
              refine dyn 9 rfl (by kernel_rfl) (by kernel_rfl) (by kernel_rfl) hQ hS rfl rfl rfl hb1385 rfl rfl fun a hS => ?_
              refine dyn 10 rfl (by kernel_rfl) (by kernel_rfl) (by kernel_rfl) hQ hS rfl rfl rfl hb1385 rfl rfl fun a hS => ?_
              refine dyn 11 rfl (by kernel_rfl) (by kernel_rfl) (by kernel_rfl) hQ hS rfl rfl rfl hb1385 rfl rfl fun a hS => ?_
              refine dyn 12 rfl (by kernel_rfl) (by kernel_rfl) (by kernel_rfl) hQ hS rfl rfl rfl hb1385 rfl rfl fun a hS => ?_
              refine dyn 13 rfl (by kernel_rfl) (by kernel_rfl) (by kernel_rfl) hQ hS rfl rfl rfl hb1385 rfl rfl fun a hS => ?_
              refine dyn 14 rfl (by kernel_rfl) (by kernel_rfl) (by kernel_rfl) hQ hS rfl rfl rfl hb1385 rfl rfl fun a hS => ?_
              refine dyn 15 rfl (by kernel_rfl) (by kernel_rfl) (by kernel_rfl) hQ hS rfl rfl rfl hb1385 rfl rfl fun a hS => ?_
              refine dyn 16 rfl (by kernel_rfl) (by kernel_rfl) (by kernel_rfl) hQ hS rfl rfl rfl hb1385 rfl rfl fun a hS => ?_
              refine dyn 17 rfl (by kernel_rfl) (by kernel_rfl) (by kernel_rfl) hQ hS rfl rfl rfl hb1385 rfl rfl fun a hS => ?_
              refine dyn 18 rfl (by kernel_rfl) (by kernel_rfl) (by kernel_rfl) hQ hS rfl rfl rfl hb1385 rfl rfl fun a hS => ?_
              refine dy 19 (v := .bool false) rfl (by kernel_rfl) (by kernel_rfl) (by kernel_rfl) rfl hQ hS (y_pickf hS rfl hb1385 rfl) rfl rfl rfl fun a hS => ?_
              refine dy 20 (v := .bool false) rfl (by kernel_rfl) (by kernel_rfl) (by kernel_rfl) rfl hQ hS (y_move hS rfl) rfl rfl rfl fun a hS => ?_
              refine dyn 21 rfl (by kernel_rfl) (by kernel_rfl) (by kernel_rfl) hQ hS rfl rfl rfl rfl rfl rfl fun a hS => ?_
              refine dy 22 (v := .bool false) rfl (by kernel_rfl) (by kernel_rfl) (by kernel_rfl) rfl hQ hS (y_pickf hS rfl rfl rfl) rfl rfl rfl fun a hS => ?_
              refine dy 23 (v := .bool false) rfl (by kernel_rfl) (by kernel_rfl) (by kernel_rfl) rfl hQ hS (y_assign hS rfl) rfl rfl rfl fun a hS => ?_
              refine wpE_done (by kernel_rfl) ?_ _
              try simp only [Exit.then, Exit.inBlock, ↓reduceIte, Nat.reduceEqDiff]
              exact ⟨false, (hS.meet [] (by decide) ⟨rfl, trivial⟩ trivial ⟨⟨2, rfl⟩, trivial⟩), hM⟩
          · rintro a w ⟨g1360, hS, hM⟩
            unfold law32_DequeDeals_j1 at hM
            refine wp_ret ?_
            injection hM with hM
            subst hM
            try simp only [Exit.then, Exit.inBlock, ↓reduceIte, Nat.reduceEqDiff]
            refine ret_ok hS Tryd.results4 (res_tmp hS rfl res_nil) ?_
            exact rfl
end Go.Proofs.YthpeklnhkkadjaaDoor
