/- What functions of the program compute; that they do. -/
import Derived.Test.YtjoilbmkcknnfaaDoorMT
import Derived.Test.YtjoilbmkcknnfaaDoorI1
import Derived.Test.YtjoilbmkcknnfaaDoorD1
set_option linter.unusedVariables false
set_option linter.unusedSimpArgs false
namespace Go.Proofs.YtjoilbmkcknnfaaDoor
open Go.RowKit
noncomputable def clone_Key (s_0 : (List KeyD)) : Option (List KeyD) := gd (roomB (([] : List KeyD).length + s_0.length)) <| some ((([] : List KeyD) ++ s_0))
set_option maxRecDepth 100000 in
set_option maxHeartbeats 4000000 in
theorem clone_Key_c (T : Nat → Prop) (W0 : World) (hT : ∀ k, T k → k < W0.heap.size) (s_0 : (List KeyD)) (v1 : Value) (hv1 : SlR R_KeyD T W0 v1 s_0) (y : (List KeyD)) (hM : clone_Key s_0 = some y) : Rets Tryd.prog No 88 [v1] W0 (fun v w' => ∃ (v2 : Value) (cl3 : List Value), v = v2 ∧ OwnR R_KeyD T W0 w' [.own v2 28 R_KeyD.size cl3] 28 v2 cl3 y) := by
  refine enter (c := _) Tryd.func88 rfl T 8 Tryd.ntmps88 hT rfl fun a hS => ?_
  replace hS := hS.fact (SlF R_KeyD v1 s_0) (SlR.dn hv1)
  unfold clone_Key at hM
  refine wp_seq_k fun K6 hK6 => ?_
  refine r_list ?_
  refine wl rfl (ky (v := .slice none 0 0) hS (y_assign hS rfl) rfl rfl fun a hS => ?_)
  refine wpList_nil ?_
  try simp only [Exit.then, Exit.inBlock, ↓reduceIte, Nat.reduceEqDiff]
  refine hK6 _ _ ?_
  refine wp_seq_k fun K7 hK7 => ?_
  refine wp_seq_k fun K8 hK8 => ?_
  refine r_list ?_
  refine wl rfl (ky (v := v1) hS (y_move hS rfl) rfl rfl fun a hS => ?_)
  obtain ⟨bn12, hbn13, hy14, hy15⟩ := y_slnil (R := R_KeyD) hS sl22 0 rfl
  refine wl rfl (ky (v := .bool bn12) hS (hy14 rfl) rfl rfl fun a hS => ?_)
  refine wpList_nil ?_
  try simp only [Exit.then, Exit.inBlock, ↓reduceIte, Nat.reduceEqDiff]
  refine hK8 _ _ ?_
  rcases bool2 (bn12) with hb16 | hb16
  · rw [hbn13 hb16] at hM
    have hM : some ([]) = some y := hM
    refine c_t hS rfl hb16 ?_
    refine wp_seq_k fun K9 hK9 => ?_
    refine r_list ?_
    refine wl rfl (ky (v := .slice none 0 0) hS (y_assign hS rfl) rfl rfl fun a hS => ?_)
    refine wpList_nil ?_
    try simp only [Exit.then, Exit.inBlock, ↓reduceIte, Nat.reduceEqDiff]
    refine hK9 _ _ ?_
    refine wp_ret ?_
    injection hM with hM
    subst hM
    try simp only [Exit.then, Exit.inBlock, ↓reduceIte, Nat.reduceEqDiff]
    refine ret_ok hS Tryd.results88 (res_tmp hS rfl res_nil) ?_
    exact ⟨.slice none 0 0, [], rfl, ret_nil _ _ _ _ _ _⟩
  · skip
    refine c_f hS rfl hb16 ?_
    refine wp_skip ?_
    try simp only [Exit.then, Exit.inBlock, ↓reduceIte, Nat.reduceEqDiff]
    refine hK7 _ _ ?_
    refine wp_seq_k fun K10 hK10 => ?_
    refine r_list ?_
    refine wl rfl (k_bslice0 R_KeyD hS el22 rfl fun v17 a w hk hS => ?_)
    refine wl rfl (ky (v := v1) hS (y_move hS rfl) rfl rfl fun a hS => ?_)
    obtain ⟨hg19, hM⟩ := gd_some hM
    refine wl rfl (k_apps (R := R_KeyD) (xs := ([] : List KeyD)) (ys := s_0) hS el22 (by decide) (by decide) rfl rfl 0 rfl 0 rfl 1 rfl hg19 rfl fun v20 cl21 a w hk hS => ?_)
    refine wl rfl (ky (v := v20) hS (y_assign hS rfl) rfl rfl fun a hS => ?_)
    refine wpList_nil ?_
    try simp only [Exit.then, Exit.inBlock, ↓reduceIte, Nat.reduceEqDiff]
    refine hK10 _ _ ?_
    refine wp_ret ?_
    injection hM with hM
    subst hM
    try simp only [Exit.then, Exit.inBlock, ↓reduceIte, Nat.reduceEqDiff]
    refine ret_ok hS Tryd.results88 (res_tmp hS rfl res_nil) ?_
    exact ⟨v20, cl21, rfl, hS.retOwn ⟨.inr (List.mem_of_getElem? (i := 0) rfl), trivial⟩ 0 rfl 0 rfl⟩

noncomputable def record_Own (r_0 : RecordD) : Option RecordD := (clone_Key r_0.Reads).bind fun u16 => some ((RecordD.mk r_0.Key r_0.Value u16 r_0.Changed r_0.Verified r_0.Cost r_0.Dirty))
set_option maxRecDepth 100000 in
set_option maxHeartbeats 4000000 in
theorem record_Own_c (T : Nat → Prop) (W0 : World) (hT : ∀ k, T k → k < W0.heap.size) (r_0 : RecordD) (v1 : Value) (hv1 : SlR R_KeyD T W0 v1 r_0.Reads) (y : RecordD) (hM : record_Own r_0 = some y) : Rets Tryd.prog No 77 [.agg #[.int .i64 r_0.Key.Kind, .string r_0.Key.Text, .string r_0.Value, v1, .int .i64 r_0.Changed, .int .i64 r_0.Verified, .int .i64 r_0.Cost, .bool r_0.Dirty]] W0 (fun v w' => ∃ (v2 : Value) (cl3 : List Value), v = .agg #[.int .i64 y.Key.Kind, .string y.Key.Text, .string y.Value, v2, .int .i64 y.Changed, .int .i64 y.Verified, .int .i64 y.Cost, .bool y.Dirty] ∧ OwnR R_KeyD T W0 w' [.own v2 28 R_KeyD.size cl3] 28 v2 cl3 y.Reads) := by
  refine enter (c := _) Tryd.func77 rfl T 8 Tryd.ntmps77 hT rfl fun a hS => ?_
  replace hS := hS.fact (SlF R_KeyD v1 r_0.Reads) (SlR.dn hv1)
  unfold record_Own at hM
  refine wp_seq_k fun K4 hK4 => ?_
  refine r_list ?_
  refine wl rfl (k_box hS rfl (cs := [.int .i64 r_0.Key.Kind, .string r_0.Key.Text, .string r_0.Value, v1, .int .i64 r_0.Changed, .int .i64 r_0.Verified, .int .i64 r_0.Cost, .bool r_0.Dirty]) rfl rfl fun b10 hnb12 a w hk hS => ?_)
  refine wl rfl (k_alloc hS ze54 rfl fun b13 hnb15 a w hk hS => ?_)
  refine wpList_nil ?_
  try simp only [Exit.then, Exit.inBlock, ↓reduceIte, Nat.reduceEqDiff]
  refine hK4 _ _ ?_
  refine wp_seq_k fun K5 hK5 => ?_
  refine r_list ?_
  refine wl rfl (ky (v := .pointer (some ⟨b10, 0 + 3, none⟩)) hS (y_fld hS rfl fl54_2) rfl rfl fun a hS => ?_)
  refine wl rfl (ky (v := v1) hS (y_load hS rfl ty22 1 rfl id (us := [v1]) rfl rfl (fun _ => rfl)) rfl rfl fun a hS => ?_)
  obtain ⟨u16, hu16, hM⟩ := bd hM
  refine wl rfl (k_call hS ci88 rfl rfl (clone_Key_c _ _ hS.dlt r_0.Reads _ (hS.get 0 rfl) _ hu16) fun _ w hR a hk hA => ?_)
  obtain ⟨vz17_2, clz17_3, he, ⟨hOvz17_2, hFvz17_2, hRvz17_2⟩⟩ := hR
  replace he := he.symm
  subst he
  have hS := hA [.own vz17_2 28 R_KeyD.size clz17_3] (adds1 ⟨hOvz17_2, by decide⟩ hFvz17_2) (pw1 _)
  replace hS := hS.fact (RowsF R_KeyD clz17_3 u16) (hRvz17_2.keep (Kt.refl _ _) (dT_dT _))
  refine wl rfl (ky (v := .pointer (some ⟨b10, 0 + 3, none⟩)) hS (y_fld hS rfl fl54_2) rfl rfl fun a hS => ?_)
  refine wl rfl (k_store hS rfl rfl (us := [vz17_2]) (cells1 (own_one (hS.own _ (List.mem_of_getElem? (i := 0) rfl)).1)) ty22 2 rfl rfl rfl (oc (own_one (hS.own _ (List.mem_of_getElem? (i := 0) rfl)).1) on) fun w hk hS => ?_)
  refine wpList_nil ?_
  try simp only [Exit.then, Exit.inBlock, ↓reduceIte, Nat.reduceEqDiff]
  refine hK5 _ _ ?_
  refine wp_seq_k fun K6 hK6 => ?_
  refine r_list ?_
  refine wl rfl (ky (v := .agg #[.int .i64 r_0.Key.Kind, .string r_0.Key.Text, .string r_0.Value, vz17_2, .int .i64 r_0.Changed, .int .i64 r_0.Verified, .int .i64 r_0.Cost, .bool r_0.Dirty]) hS (y_load hS rfl ty54 2 rfl id (us := [.int .i64 r_0.Key.Kind, .string r_0.Key.Text, .string r_0.Value, vz17_2, .int .i64 r_0.Changed, .int .i64 r_0.Verified, .int .i64 r_0.Cost, .bool r_0.Dirty]) rfl rfl (fun h => by cases h)) rfl rfl fun a hS => ?_)
  refine wl rfl (k_store hS rfl rfl (us := [.int .i64 r_0.Key.Kind, .string r_0.Key.Text, .string r_0.Value, vz17_2, .int .i64 r_0.Changed, .int .i64 r_0.Verified, .int .i64 r_0.Cost, .bool r_0.Dirty]) rfl ty54 1 rfl rfl rfl (oc rfl (oc rfl (oc rfl (oc (own_one (hS.own _ (List.mem_of_getElem? (i := 0) rfl)).1) (oc rfl (oc rfl (oc rfl (oc rfl on)))))))) fun w hk hS => ?_)
  refine wpList_nil ?_
  try simp only [Exit.then, Exit.inBlock, ↓reduceIte, Nat.reduceEqDiff]
  refine hK6 _ _ ?_
  refine wp_ret ?_
  injection hM with hM
  subst hM
  try simp only [Exit.then, Exit.inBlock, ↓reduceIte, Nat.reduceEqDiff]
  refine ret_ok hS Tryd.results77 (res_cell hS rfl 1 rfl ty54 rfl (fun h => by cases h) res_nil) ?_
  exact ⟨vz17_2, clz17_3, rfl, hS.retOwn ⟨.inr (List.mem_of_getElem? (i := 0) rfl), trivial⟩ 0 rfl 0 rfl⟩

noncomputable def clone_Record (s_0 : (List RecordD)) : Option (List RecordD) := gd (roomB (([] : List RecordD).length + s_0.length)) <| some ((([] : List RecordD) ++ s_0))
set_option maxRecDepth 100000 in
set_option maxHeartbeats 4000000 in
theorem clone_Record_c (T : Nat → Prop) (W0 : World) (hT : ∀ k, T k → k < W0.heap.size) (s_0 : (List RecordD)) (v1 : Value) (hv1 : SlR R_RecordD T W0 v1 s_0) (y : (List RecordD)) (hM : clone_Record s_0 = some y) : Rets Tryd.prog No 100 [v1] W0 (fun v w' => ∃ (v2 : Value) (cl3 : List Value), v = v2 ∧ OwnR R_RecordD T W0 w' [.own v2 54 R_RecordD.size cl3] 54 v2 cl3 y) := by
  refine enter (c := _) Tryd.func100 rfl T 8 Tryd.ntmps100 hT rfl fun a hS => ?_
  replace hS := hS.fact (SlF R_RecordD v1 s_0) (SlR.dn hv1)
  unfold clone_Record at hM
  refine wp_seq_k fun K6 hK6 => ?_
  refine r_list ?_
  refine wl rfl (ky (v := .slice none 0 0) hS (y_assign hS rfl) rfl rfl fun a hS => ?_)
  refine wpList_nil ?_
  try simp only [Exit.then, Exit.inBlock, ↓reduceIte, Nat.reduceEqDiff]
  refine hK6 _ _ ?_
  refine wp_seq_k fun K7 hK7 => ?_
  refine wp_seq_k fun K8 hK8 => ?_
  refine r_list ?_
  refine wl rfl (ky (v := v1) hS (y_move hS rfl) rfl rfl fun a hS => ?_)
  obtain ⟨bn12, hbn13, hy14, hy15⟩ := y_slnil (R := R_RecordD) hS sl51 0 rfl
  refine wl rfl (ky (v := .bool bn12) hS (hy14 rfl) rfl rfl fun a hS => ?_)
  refine wpList_nil ?_
  try simp only [Exit.then, Exit.inBlock, ↓reduceIte, Nat.reduceEqDiff]
  refine hK8 _ _ ?_
  rcases bool2 (bn12) with hb16 | hb16
  · rw [hbn13 hb16] at hM
    have hM : some ([]) = some y := hM
    refine c_t hS rfl hb16 ?_
    refine wp_seq_k fun K9 hK9 => ?_
    refine r_list ?_
    refine wl rfl (ky (v := .slice none 0 0) hS (y_assign hS rfl) rfl rfl fun a hS => ?_)
    refine wpList_nil ?_
    try simp only [Exit.then, Exit.inBlock, ↓reduceIte, Nat.reduceEqDiff]
    refine hK9 _ _ ?_
    refine wp_ret ?_
    injection hM with hM
    subst hM
    try simp only [Exit.then, Exit.inBlock, ↓reduceIte, Nat.reduceEqDiff]
    refine ret_ok hS Tryd.results100 (res_tmp hS rfl res_nil) ?_
    exact ⟨.slice none 0 0, [], rfl, ret_nil _ _ _ _ _ _⟩
  · skip
    refine c_f hS rfl hb16 ?_
    refine wp_skip ?_
    try simp only [Exit.then, Exit.inBlock, ↓reduceIte, Nat.reduceEqDiff]
    refine hK7 _ _ ?_
    refine wp_seq_k fun K10 hK10 => ?_
    refine r_list ?_
    refine wl rfl (k_bslice0 R_RecordD hS el51 rfl fun v17 a w hk hS => ?_)
    refine wl rfl (ky (v := v1) hS (y_move hS rfl) rfl rfl fun a hS => ?_)
    obtain ⟨hg19, hM⟩ := gd_some hM
    refine wl rfl (k_apps (R := R_RecordD) (xs := ([] : List RecordD)) (ys := s_0) hS el51 (by decide) (by decide) rfl rfl 0 rfl 0 rfl 1 rfl hg19 rfl fun v20 cl21 a w hk hS => ?_)
    refine wl rfl (ky (v := v20) hS (y_assign hS rfl) rfl rfl fun a hS => ?_)
    refine wpList_nil ?_
    try simp only [Exit.then, Exit.inBlock, ↓reduceIte, Nat.reduceEqDiff]
    refine hK10 _ _ ?_
    refine wp_ret ?_
    injection hM with hM
    subst hM
    try simp only [Exit.then, Exit.inBlock, ↓reduceIte, Nat.reduceEqDiff]
    refine ret_ok hS Tryd.results100 (res_tmp hS rfl res_nil) ?_
    exact ⟨v20, cl21, rfl, hS.retOwn ⟨.inr (List.mem_of_getElem? (i := 0) rfl), trivial⟩ 0 rfl 0 rfl⟩

noncomputable def record_Copy_j1 (out197 : (List RecordD)) : Option (List RecordD) := some (out197)
noncomputable def record_Copy_l2 (u133 : (List RecordD)) (out228 : (List RecordD)) (g230 : Int) : Option (Fl ((List RecordD) × Int) ((List RecordD))) := cond (decide ((g230 : Int) < (u133.length : Int))) ((getI out228 g230).bind fun e261 => (record_Own e261).bind fun u273 => (getI out228 g230).bind fun e276 => some (.go ((out228.set (Int.toNat g230) u273), IntKind.i64.wrap (g230 + 1)))) (some (.out out228))
noncomputable def record_Copy (l_0 : (List RecordD)) : Option (List RecordD) := (clone_Record l_0).bind fun u133 => (loop (fun s : (List RecordD) × Int => record_Copy_l2 u133 s.1 s.2) (u133, 0)).bind fun r => record_Copy_j1 r
set_option maxRecDepth 100000 in
set_option maxHeartbeats 4000000 in
theorem record_Copy_c (T : Nat → Prop) (W0 : World) (hT : ∀ k, T k → k < W0.heap.size) (l_0 : (List RecordD)) (v1 : Value) (hv1 : SlR R_RecordD T W0 v1 l_0) (y : (List RecordD)) (hM : record_Copy l_0 = some y) : Rets Tryd.prog No 75 [v1] W0 (fun v w' => ∃ (v2 : Value) (cl3 : List Value), v = v2 ∧ OwnR R_RecordD T W0 w' [.own v2 54 R_RecordD.size cl3] 54 v2 cl3 y) := by
  refine enter (c := _) Tryd.func75 rfl T 22 Tryd.ntmps75 hT rfl fun a hS => ?_
  replace hS := hS.fact (SlF R_RecordD v1 l_0) (SlR.dn hv1)
  unfold record_Copy at hM
  refine wp_seq_k fun K22 hK22 => ?_
  refine r_list ?_
  refine wl rfl (ky (v := .slice none 0 0) hS (y_assign hS rfl) rfl rfl fun a hS => ?_)
  refine wpList_nil ?_
  try simp only [Exit.then, Exit.inBlock, ↓reduceIte, Nat.reduceEqDiff]
  refine hK22 _ _ ?_
  refine wp_seq_k fun K23 hK23 => ?_
  refine r_list ?_
  refine wl rfl (ky (v := v1) hS (y_move hS rfl) rfl rfl fun a hS => ?_)
  obtain ⟨u133, hu133, hM⟩ := bd hM
  refine wl rfl (k_call hS ci100 rfl rfl (clone_Record_c _ _ hS.dlt l_0 _ (hS.get 0 rfl) _ hu133) fun _ w hR a hk hA => ?_)
  obtain ⟨vz134_2, clz134_3, he, ⟨hOvz134_2, hFvz134_2, hRvz134_2⟩⟩ := hR
  replace he := he.symm
  subst he
  have hS := hA [.own vz134_2 54 R_RecordD.size clz134_3] (adds1 ⟨hOvz134_2, by decide⟩ hFvz134_2) (pw1 _)
  replace hS := hS.fact (RowsF R_RecordD clz134_3 u133) (hRvz134_2.keep (Kt.refl _ _) (dT_dT _))
  refine wl rfl (ky (v := vz134_2) hS (y_assign hS rfl) rfl rfl fun a hS => ?_)
  refine wpList_nil ?_
  try simp only [Exit.then, Exit.inBlock, ↓reduceIte, Nat.reduceEqDiff]
  refine hK23 _ _ ?_
  refine seq_j (J := fun a w => ∃ (out197 : (List RecordD)) (cl198 : (List Value)), St W0 No T 22 [(3, vz134_2)] [.own vz134_2 54 R_RecordD.size cl198] [RowsF R_RecordD cl198 out197] a w ∧ record_Copy_j1 out197 = some y) ?_ ?_
  · skip
    refine wp_seq_k fun K34 hK34 => ?_
    refine r_list ?_
    refine wl rfl (ky (v := vz134_2) hS (y_move hS rfl) rfl rfl fun a hS => ?_)
    refine wl rfl (ky (v := .int .i64 (u133.length : Int)) hS (y_leno (R := R_RecordD) (xs := u133) hS sl51 rfl 0 rfl 0 rfl) rfl rfl fun a hS => ?_)
    refine wl rfl (ky (v := .int .i64 0) hS (y_move hS rfl) rfl rfl fun a hS => ?_)
    refine wpList_nil ?_
    try simp only [Exit.then, Exit.inBlock, ↓reduceIte, Nat.reduceEqDiff]
    refine hK34 _ _ ?_
    refine wp_block ?_
    obtain ⟨r1, hl1, hMo1⟩ := bd hM
    refine wp_lp (fun s : (List RecordD) × Int => record_Copy_l2 u133 s.1 s.2) (fun s a w => ∃ (out228 : (List RecordD)) (g230 : Int) (cl229 : (List Value)), (out228, g230) = s ∧ St W0 No T 22 [(3, vz134_2), (8, vz134_2), (9, .int .i64 (u133.length : Int)), (10, .int .i64 g230)] [.own vz134_2 54 R_RecordD.size cl229] [RowsF R_RecordD cl229 out228] a w) hl1 ⟨u133, 0, clz134_3, rfl, (hS.meet [0] (by decide) ⟨rfl, rfl, rfl, rfl, trivial⟩ ⟨rfl, trivial⟩ ⟨⟨0, rfl⟩, trivial⟩)⟩ ?_
    rintro s a w f1 ⟨out228, g230, cl229, rfl, hS⟩ hM hf1
    have hM : record_Copy_l2 u133 out228 g230 = some f1 := hM
    unfold record_Copy_l2 at hM
    refine wp_seq_k fun K43 hK43 => ?_
    refine r_list ?_
    refine wl rfl (ky (v := .bool (decide ((g230 : Int) < (u133.length : Int)))) hS (y_int hS rfl rfl rfl) rfl rfl fun a hS => ?_)
    refine wpList_nil ?_
    try simp only [Exit.then, Exit.inBlock, ↓reduceIte, Nat.reduceEqDiff]
    refine hK43 _ _ ?_
    refine wp_seq_k fun K44 hK44 => ?_
    rcases bool2 (decide ((g230 : Int) < (u133.length : Int))) with hb260 | hb260
    · replace hM := ct hb260 hM
      refine c_t hS rfl hb260 ?_
      refine wp_skip ?_
      try simp only [Exit.then, Exit.inBlock, ↓reduceIte, Nat.reduceEqDiff]
      refine hK44 _ _ ?_
      refine wp_seq_k fun K45 hK45 => ?_
      refine wp_block ?_
      refine wp_seq_k fun K46 hK46 => ?_
      refine r_list ?_
      refine wl rfl (ky (v := .int .i64 g230) hS (y_move hS rfl) rfl rfl fun a hS => ?_)
      obtain ⟨e261, he261, hM⟩ := bd hM
      refine wl rfl (k_indexo (R := R_RecordD) hS sl51 ty54 rfl rfl 0 rfl 0 rfl he261 rfl fun b263 o264 p269 cs266 hr265 hO267 hC268 a hS => ?_)
      obtain ⟨v262, rfl, hv262⟩ := hr265
      replace hS := hS.fact (SlF R_KeyD v262 e261.Reads) hv262
      refine wl rfl (ky (v := .agg #[.int .i64 e261.Key.Kind, .string e261.Key.Text, .string e261.Value, v262, .int .i64 e261.Changed, .int .i64 e261.Verified, .int .i64 e261.Cost, .bool e261.Dirty]) hS (y_loado (k := 0) hS ty54 0 rfl hO267 hC268 rfl id (us := [.int .i64 e261.Key.Kind, .string e261.Key.Text, .string e261.Value, v262, .int .i64 e261.Changed, .int .i64 e261.Verified, .int .i64 e261.Cost, .bool e261.Dirty]) rfl rfl (fun h => by cases h)) rfl rfl fun a hS => ?_)
      refine wl rfl (k_alloc hS ze54 rfl fun b270 hnb272 a w hk hS => ?_)
      refine wl rfl (ky (v := .int .i64 g230) hS (y_assign hS rfl) rfl rfl fun a hS => ?_)
      refine wl rfl (k_store hS rfl rfl (us := [.int .i64 e261.Key.Kind, .string e261.Key.Text, .string e261.Value, v262, .int .i64 e261.Changed, .int .i64 e261.Verified, .int .i64 e261.Cost, .bool e261.Dirty]) rfl ty54 0 rfl rfl rfl (oc rfl (oc rfl (oc rfl (oc (SlR.one ((hS.get 0 rfl) : SlR R_KeyD _ _ _ _)) (oc rfl (oc rfl (oc rfl (oc rfl on)))))))) fun w hk hS => ?_)
      refine wpList_nil ?_
      try simp only [Exit.then, Exit.inBlock, ↓reduceIte, Nat.reduceEqDiff]
      refine hK46 _ _ ?_
      refine r_list ?_
      refine wl rfl (ky (v := vz134_2) hS (y_move hS rfl) rfl rfl fun a hS => ?_)
      refine wl rfl (ky (v := .int .i64 g230) hS (y_move hS rfl) rfl rfl fun a hS => ?_)
      refine wl rfl (ky (v := .agg #[.int .i64 e261.Key.Kind, .string e261.Key.Text, .string e261.Value, v262, .int .i64 e261.Changed, .int .i64 e261.Verified, .int .i64 e261.Cost, .bool e261.Dirty]) hS (y_load hS rfl ty54 0 rfl id (us := [.int .i64 e261.Key.Kind, .string e261.Key.Text, .string e261.Value, v262, .int .i64 e261.Changed, .int .i64 e261.Verified, .int .i64 e261.Cost, .bool e261.Dirty]) rfl rfl (fun h => by cases h)) rfl rfl fun a hS => ?_)
      obtain ⟨u273, hu273, hM⟩ := bd hM
      refine wl rfl (k_call hS ci77 rfl rfl (record_Own_c _ _ hS.dlt e261 _ (hS.get 0 rfl) _ hu273) fun _ w hR a hk hA => ?_)
      obtain ⟨vz274_2, clz274_3, he, ⟨hOvz274_2, hFvz274_2, hRvz274_2⟩⟩ := hR
      replace he := he.symm
      subst he
      have hS := hA [.own vz274_2 28 R_KeyD.size clz274_3] (adds1 ⟨hOvz274_2, by decide⟩ hFvz274_2) (pw1 _)
      replace hS := hS.fact (RowsF R_KeyD clz274_3 u273.Reads) (hRvz274_2.keep (Kt.refl _ _) (dT_dT _))
      obtain ⟨e276, he276, hM⟩ := bd hM
      refine wl rfl (k_indexo (R := R_RecordD) hS sl51 ty54 rfl rfl 2 rfl 2 rfl he276 rfl fun b278 o279 p284 cs281 hr280 hO282 hC283 a hS => ?_)
      obtain ⟨v277, rfl, hv277⟩ := hr280
      replace hS := hS.fact (SlF R_KeyD v277 e276.Reads) hv277
      replace hS := hS.freeze (R := R_KeyD) 0 rfl 1 rfl
      refine wl rfl (k_storeo (R := R_RecordD) (k := 0) (cs := [.int .i64 e276.Key.Kind, .string e276.Key.Text, .string e276.Value, v277, .int .i64 e276.Changed, .int .i64 e276.Verified, .int .i64 e276.Cost, .bool e276.Dirty]) (us := [.int .i64 u273.Key.Kind, .string u273.Key.Text, .string u273.Value, vz274_2, .int .i64 u273.Changed, .int .i64 u273.Verified, .int .i64 u273.Cost, .bool u273.Dirty]) (x' := u273) hS rfl rfl rfl ty54 1 rfl 4 rfl hO282 hC283 he276 (⟨_, rfl, (hS.get 1 rfl)⟩) rfl rfl (⟨_, rfl, (hS.get 0 rfl)⟩) fun cl285 w hk hS => ?_)
      refine wpList_nil ?_
      try simp only [Exit.then, Exit.inBlock, ↓reduceIte, Nat.reduceEqDiff]
      refine hK45 _ _ ?_
      refine r_list ?_
      refine wl rfl (ky (v := .int .i64 (IntKind.i64.wrap (g230 + 1))) hS (y_int hS rfl rfl rfl) rfl rfl fun a hS => ?_)
      refine wl rfl (ky (v := .int .i64 (IntKind.i64.wrap (g230 + 1))) hS (y_move hS rfl) rfl rfl fun a hS => ?_)
      refine wpList_nil ?_
      try simp only [Exit.then, Exit.inBlock, ↓reduceIte, Nat.reduceEqDiff]
      exact ⟨((out228.set (Int.toNat g230) u273), IntKind.i64.wrap (g230 + 1)), (Option.some.inj hM).symm, (out228.set (Int.toNat g230) u273), (IntKind.i64.wrap (g230 + 1)), cl285, rfl, (hS.meet [1] (by decide) ⟨rfl, rfl, rfl, rfl, trivial⟩ ⟨rfl, trivial⟩ ⟨⟨0, rfl⟩, trivial⟩)⟩
    · replace hM := cf hb260 hM
      refine c_f hS rfl hb260 ?_
      refine wp_exit ?_
      try simp only [Exit.then, Exit.inBlock, ↓reduceIte, Nat.reduceEqDiff]
      injection hM with hM
      subst hM
      have hr := hf1 _ rfl
      subst hr
      have hM : record_Copy_j1 out228 = some y := hMo1
      exact ⟨out228, cl229, (hS.meet [0] (by decide) ⟨rfl, trivial⟩ ⟨rfl, trivial⟩ ⟨⟨0, rfl⟩, trivial⟩), hM⟩
  · rintro a w ⟨out197, cl198, hS, hM⟩
    unfold record_Copy_j1 at hM
    refine wp_seq_k fun K33 hK33 => ?_
    refine r_list ?_
    refine wl rfl (ky (v := vz134_2) hS (y_move hS rfl) rfl rfl fun a hS => ?_)
    refine wl rfl (ky (v := vz134_2) hS (y_assign hS rfl) rfl rfl fun a hS => ?_)
    refine wpList_nil ?_
    try simp only [Exit.then, Exit.inBlock, ↓reduceIte, Nat.reduceEqDiff]
    refine hK33 _ _ ?_
    refine wp_ret ?_
    injection hM with hM
    subst hM
    try simp only [Exit.then, Exit.inBlock, ↓reduceIte, Nat.reduceEqDiff]
    refine ret_ok hS Tryd.results75 (res_tmp hS rfl res_nil) ?_
    exact ⟨vz134_2, cl198, rfl, hS.retOwn ⟨.inr (List.mem_of_getElem? (i := 0) rfl), trivial⟩ 0 rfl 0 rfl⟩

noncomputable def cmp_isNaN_int (x_0 : Int) : Option Bool := some ((x_0 : Int) != x_0)
set_option maxRecDepth 100000 in
set_option maxHeartbeats 4000000 in
theorem cmp_isNaN_int_c (T : Nat → Prop) (W0 : World) (hT : ∀ k, T k → k < W0.heap.size) (x_0 : Int) (y : Bool) (hM : cmp_isNaN_int x_0 = some y) : Rets Tryd.prog No 109 [.int .i64 x_0] W0 (fun v w' => v = .bool y) := by
  refine enter (c := _) Tryd.func109 rfl T 6 Tryd.ntmps109 hT rfl fun a hS => ?_
  unfold cmp_isNaN_int at hM
  refine wp_seq_k fun K3 hK3 => ?_
  refine r_list ?_
  refine wl rfl (ky (v := .bool false) hS (y_assign hS rfl) rfl rfl fun a hS => ?_)
  refine wpList_nil ?_
  try simp only [Exit.then, Exit.inBlock, ↓reduceIte, Nat.reduceEqDiff]
  refine hK3 _ _ ?_
  refine wp_seq_k fun K4 hK4 => ?_
  refine r_list ?_
  refine wl rfl (ky (v := .int .i64 x_0) hS (y_move hS rfl) rfl rfl fun a hS => ?_)
  refine wl rfl (ky (v := .int .i64 x_0) hS (y_move hS rfl) rfl rfl fun a hS => ?_)
  refine wl rfl (ky (v := .bool ((x_0 : Int) != x_0)) hS (y_int hS rfl rfl rfl) rfl rfl fun a hS => ?_)
  refine wl rfl (ky (v := .bool ((x_0 : Int) != x_0)) hS (y_assign hS rfl) rfl rfl fun a hS => ?_)
  refine wpList_nil ?_
  try simp only [Exit.then, Exit.inBlock, ↓reduceIte, Nat.reduceEqDiff]
  refine hK4 _ _ ?_
  refine wp_ret ?_
  injection hM with hM
  subst hM
  try simp only [Exit.then, Exit.inBlock, ↓reduceIte, Nat.reduceEqDiff]
  refine ret_ok hS Tryd.results109 (res_tmp hS rfl res_nil) ?_
  exact rfl

noncomputable def cmp_Compare (x_0 : Int) (y_1 : Int) : Option Int := (cmp_isNaN_int x_0).bind fun u10 => (cmp_isNaN_int y_1).bind fun u12 => cond u10 (cond u12 (some (0)) (some ((-1)))) (cond u12 (some (1)) (cond (decide ((x_0 : Int) < y_1)) (some ((-1))) (cond (decide ((y_1 : Int) < x_0)) (some (1)) (some (0)))))
set_option maxRecDepth 100000 in
set_option maxHeartbeats 4000000 in
theorem cmp_Compare_c (T : Nat → Prop) (W0 : World) (hT : ∀ k, T k → k < W0.heap.size) (x_0 : Int) (y_1 : Int) (y : Int) (hM : cmp_Compare x_0 y_1 = some y) : Rets Tryd.prog No 92 [.int .i64 x_0, .int .i64 y_1] W0 (fun v w' => v = .int .i64 y) := by
  refine enter (c := _) Tryd.func92 rfl T 20 Tryd.ntmps92 hT rfl fun a hS => ?_
  unfold cmp_Compare at hM
  refine wp_seq_k fun K20 hK20 => ?_
  refine r_list ?_
  refine wl rfl (ky (v := .int .i64 0) hS (y_assign hS rfl) rfl rfl fun a hS => ?_)
  refine wpList_nil ?_
  try simp only [Exit.then, Exit.inBlock, ↓reduceIte, Nat.reduceEqDiff]
  refine hK20 _ _ ?_
  refine wp_seq_k fun K21 hK21 => ?_
  refine r_list ?_
  refine wl rfl (ky (v := .int .i64 x_0) hS (y_move hS rfl) rfl rfl fun a hS => ?_)
  obtain ⟨u10, hu10, hM⟩ := bd hM
  refine wl rfl (k_call hS ci109 rfl rfl (cmp_isNaN_int_c _ _ hS.dlt x_0 _ hu10) fun _ w hR a hk hA => ?_)
  have he := Eq.symm hR
  subst he
  have hS := hA [] (fun r hr => by cases hr) List.Pairwise.nil
  refine wl rfl (ky (v := .bool u10) hS (y_assign hS rfl) rfl rfl fun a hS => ?_)
  refine wpList_nil ?_
  try simp only [Exit.then, Exit.inBlock, ↓reduceIte, Nat.reduceEqDiff]
  refine hK21 _ _ ?_
  refine wp_seq_k fun K22 hK22 => ?_
  refine r_list ?_
  refine wl rfl (ky (v := .int .i64 y_1) hS (y_move hS rfl) rfl rfl fun a hS => ?_)
  obtain ⟨u12, hu12, hM⟩ := bd hM
  refine wl rfl (k_call hS ci109 rfl rfl (cmp_isNaN_int_c _ _ hS.dlt y_1 _ hu12) fun _ w hR a hk hA => ?_)
  have he := Eq.symm hR
  subst he
  have hS := hA [] (fun r hr => by cases hr) List.Pairwise.nil
  refine wl rfl (ky (v := .bool u12) hS (y_assign hS rfl) rfl rfl fun a hS => ?_)
  refine wpList_nil ?_
  try simp only [Exit.then, Exit.inBlock, ↓reduceIte, Nat.reduceEqDiff]
  refine hK22 _ _ ?_
  refine wp_seq_k fun K23 hK23 => ?_
  refine wp_seq_k fun K24 hK24 => ?_
  refine r_list ?_
  refine wl rfl (ky (v := .bool u10) hS (y_move hS rfl) rfl rfl fun a hS => ?_)
  refine wpList_nil ?_
  try simp only [Exit.then, Exit.inBlock, ↓reduceIte, Nat.reduceEqDiff]
  refine hK24 _ _ ?_
  rcases bool2 (u10) with hb14 | hb14
  · replace hM := ct hb14 hM
    refine c_t hS rfl hb14 ?_
    refine wp_seq_k fun K25 hK25 => ?_
    refine wp_seq_k fun K26 hK26 => ?_
    refine r_list ?_
    refine wl rfl (ky (v := .bool u12) hS (y_move hS rfl) rfl rfl fun a hS => ?_)
    refine wpList_nil ?_
    try simp only [Exit.then, Exit.inBlock, ↓reduceIte, Nat.reduceEqDiff]
    refine hK26 _ _ ?_
    rcases bool2 (u12) with hb15 | hb15
    · replace hM := ct hb15 hM
      refine c_t hS rfl hb15 ?_
      refine wp_seq_k fun K27 hK27 => ?_
      refine r_list ?_
      refine wl rfl (ky (v := .int .i64 0) hS (y_assign hS rfl) rfl rfl fun a hS => ?_)
      refine wpList_nil ?_
      try simp only [Exit.then, Exit.inBlock, ↓reduceIte, Nat.reduceEqDiff]
      refine hK27 _ _ ?_
      refine wp_ret ?_
      injection hM with hM
      subst hM
      try simp only [Exit.then, Exit.inBlock, ↓reduceIte, Nat.reduceEqDiff]
      refine ret_ok hS Tryd.results92 (res_tmp hS rfl res_nil) ?_
      exact rfl
    · replace hM := cf hb15 hM
      refine c_f hS rfl hb15 ?_
      refine wp_skip ?_
      try simp only [Exit.then, Exit.inBlock, ↓reduceIte, Nat.reduceEqDiff]
      refine hK25 _ _ ?_
      refine wp_seq_k fun K28 hK28 => ?_
      refine r_list ?_
      refine wl rfl (ky (v := .int .i64 (-1)) hS (y_assign hS rfl) rfl rfl fun a hS => ?_)
      refine wpList_nil ?_
      try simp only [Exit.then, Exit.inBlock, ↓reduceIte, Nat.reduceEqDiff]
      refine hK28 _ _ ?_
      refine wp_ret ?_
      injection hM with hM
      subst hM
      try simp only [Exit.then, Exit.inBlock, ↓reduceIte, Nat.reduceEqDiff]
      refine ret_ok hS Tryd.results92 (res_tmp hS rfl res_nil) ?_
      exact rfl
  · replace hM := cf hb14 hM
    refine c_f hS rfl hb14 ?_
    refine wp_skip ?_
    try simp only [Exit.then, Exit.inBlock, ↓reduceIte, Nat.reduceEqDiff]
    refine hK23 _ _ ?_
    refine wp_seq_k fun K29 hK29 => ?_
    refine wp_seq_k fun K30 hK30 => ?_
    refine r_list ?_
    refine wl rfl (ky (v := .bool u12) hS (y_move hS rfl) rfl rfl fun a hS => ?_)
    refine wpList_nil ?_
    try simp only [Exit.then, Exit.inBlock, ↓reduceIte, Nat.reduceEqDiff]
    refine hK30 _ _ ?_
    rcases bool2 (u12) with hb16 | hb16
    · replace hM := ct hb16 hM
      refine c_t hS rfl hb16 ?_
      refine wp_seq_k fun K31 hK31 => ?_
      refine r_list ?_
      refine wl rfl (ky (v := .int .i64 1) hS (y_assign hS rfl) rfl rfl fun a hS => ?_)
      refine wpList_nil ?_
      try simp only [Exit.then, Exit.inBlock, ↓reduceIte, Nat.reduceEqDiff]
      refine hK31 _ _ ?_
      refine wp_ret ?_
      injection hM with hM
      subst hM
      try simp only [Exit.then, Exit.inBlock, ↓reduceIte, Nat.reduceEqDiff]
      refine ret_ok hS Tryd.results92 (res_tmp hS rfl res_nil) ?_
      exact rfl
    · replace hM := cf hb16 hM
      refine c_f hS rfl hb16 ?_
      refine wp_skip ?_
      try simp only [Exit.then, Exit.inBlock, ↓reduceIte, Nat.reduceEqDiff]
      refine hK29 _ _ ?_
      refine wp_seq_k fun K32 hK32 => ?_
      refine wp_seq_k fun K33 hK33 => ?_
      refine r_list ?_
      refine wl rfl (ky (v := .int .i64 x_0) hS (y_move hS rfl) rfl rfl fun a hS => ?_)
      refine wl rfl (ky (v := .int .i64 y_1) hS (y_move hS rfl) rfl rfl fun a hS => ?_)
      refine wl rfl (ky (v := .bool (decide ((x_0 : Int) < y_1))) hS (y_int hS rfl rfl rfl) rfl rfl fun a hS => ?_)
      refine wpList_nil ?_
      try simp only [Exit.then, Exit.inBlock, ↓reduceIte, Nat.reduceEqDiff]
      refine hK33 _ _ ?_
      rcases bool2 (decide ((x_0 : Int) < y_1)) with hb17 | hb17
      · replace hM := ct hb17 hM
        refine c_t hS rfl hb17 ?_
        refine wp_seq_k fun K34 hK34 => ?_
        refine r_list ?_
        refine wl rfl (ky (v := .int .i64 (-1)) hS (y_assign hS rfl) rfl rfl fun a hS => ?_)
        refine wpList_nil ?_
        try simp only [Exit.then, Exit.inBlock, ↓reduceIte, Nat.reduceEqDiff]
        refine hK34 _ _ ?_
        refine wp_ret ?_
        injection hM with hM
        subst hM
        try simp only [Exit.then, Exit.inBlock, ↓reduceIte, Nat.reduceEqDiff]
        refine ret_ok hS Tryd.results92 (res_tmp hS rfl res_nil) ?_
        exact rfl
      · replace hM := cf hb17 hM
        refine c_f hS rfl hb17 ?_
        refine wp_skip ?_
        try simp only [Exit.then, Exit.inBlock, ↓reduceIte, Nat.reduceEqDiff]
        refine hK32 _ _ ?_
        refine wp_seq_k fun K35 hK35 => ?_
        refine wp_seq_k fun K36 hK36 => ?_
        refine r_list ?_
        refine wl rfl (ky (v := .int .i64 x_0) hS (y_move hS rfl) rfl rfl fun a hS => ?_)
        refine wl rfl (ky (v := .int .i64 y_1) hS (y_move hS rfl) rfl rfl fun a hS => ?_)
        refine wl rfl (ky (v := .bool (decide ((y_1 : Int) < x_0))) hS (y_int hS rfl rfl rfl) rfl rfl fun a hS => ?_)
        refine wpList_nil ?_
        try simp only [Exit.then, Exit.inBlock, ↓reduceIte, Nat.reduceEqDiff]
        refine hK36 _ _ ?_
        rcases bool2 (decide ((y_1 : Int) < x_0)) with hb18 | hb18
        · replace hM := ct hb18 hM
          refine c_t hS rfl hb18 ?_
          refine wp_seq_k fun K37 hK37 => ?_
          refine r_list ?_
          refine wl rfl (ky (v := .int .i64 1) hS (y_assign hS rfl) rfl rfl fun a hS => ?_)
          refine wpList_nil ?_
          try simp only [Exit.then, Exit.inBlock, ↓reduceIte, Nat.reduceEqDiff]
          refine hK37 _ _ ?_
          refine wp_ret ?_
          injection hM with hM
          subst hM
          try simp only [Exit.then, Exit.inBlock, ↓reduceIte, Nat.reduceEqDiff]
          refine ret_ok hS Tryd.results92 (res_tmp hS rfl res_nil) ?_
          exact rfl
        · replace hM := cf hb18 hM
          refine c_f hS rfl hb18 ?_
          refine wp_skip ?_
          try simp only [Exit.then, Exit.inBlock, ↓reduceIte, Nat.reduceEqDiff]
          refine hK35 _ _ ?_
          refine wp_seq_k fun K38 hK38 => ?_
          refine r_list ?_
          refine wl rfl (ky (v := .int .i64 0) hS (y_assign hS rfl) rfl rfl fun a hS => ?_)
          refine wpList_nil ?_
          try simp only [Exit.then, Exit.inBlock, ↓reduceIte, Nat.reduceEqDiff]
          refine hK38 _ _ ?_
          refine wp_ret ?_
          injection hM with hM
          subst hM
          try simp only [Exit.then, Exit.inBlock, ↓reduceIte, Nat.reduceEqDiff]
          refine ret_ok hS Tryd.results92 (res_tmp hS rfl res_nil) ?_
          exact rfl

noncomputable def cmp_Or_j1 (zero48 : Int) : Option Int := some (zero48)
noncomputable def cmp_Or_l2 (vals_ : (List Int)) (zero49 : Int) (g50 : Int) (g51 : Int) : Option (Fl (Int × Int × Int) (Fl (Int) Int)) := cond (decide ((g51 : Int) < g50)) ((getI vals_ g51).bind fun e64 => cond ((e64 : Int) != zero49) (some (.out (.out e64))) (some (.go (zero49, g50, IntKind.i64.wrap (g51 + 1))))) (some (.out (.go zero49)))
noncomputable def cmp_Or (vals_ : (List Int)) : Option Int := (loop (fun s : Int × Int × Int => cmp_Or_l2 vals_ s.1 s.2.1 s.2.2) (0, (vals_.length : Int), 0)).bind fun r => Fl.el r (fun s => cmp_Or_j1 s) (fun y => some (y))
set_option maxRecDepth 100000 in
set_option maxHeartbeats 4000000 in
theorem cmp_Or_c (T : Nat → Prop) (W0 : World) (hT : ∀ k, T k → k < W0.heap.size) (vals_ : (List Int)) (v1 : Value) (hv1 : SlR (Rep.int .i64) T W0 v1 vals_) (y : Int) (hM : cmp_Or vals_ = some y) : Rets Tryd.prog No 91 [v1] W0 (fun v w' => v = .int .i64 y) := by
  refine enter (c := _) Tryd.func91 rfl T 18 Tryd.ntmps91 hT rfl fun a hS => ?_
  replace hS := hS.fact (SlF (Rep.int .i64) v1 vals_) (SlR.dn hv1)
  unfold cmp_Or at hM
  refine wp_seq_k fun K18 hK18 => ?_
  refine r_list ?_
  refine wl rfl (ky (v := .int .i64 0) hS (y_assign hS rfl) rfl rfl fun a hS => ?_)
  refine wpList_nil ?_
  try simp only [Exit.then, Exit.inBlock, ↓reduceIte, Nat.reduceEqDiff]
  refine hK18 _ _ ?_
  refine wp_seq_k fun K19 hK19 => ?_
  refine r_list ?_
  refine wl rfl (ky (v := .int .i64 0) hS (y_assign hS rfl) rfl rfl fun a hS => ?_)
  refine wpList_nil ?_
  try simp only [Exit.then, Exit.inBlock, ↓reduceIte, Nat.reduceEqDiff]
  refine hK19 _ _ ?_
  refine seq_j (J := fun a w => ∃ (zero48 : Int), St W0 No T 18 [(3, .int .i64 zero48)] [] [] a w ∧ cmp_Or_j1 zero48 = some y) ?_ ?_
  · skip
    refine wp_seq_k fun K28 hK28 => ?_
    refine r_list ?_
    refine wl rfl (ky (v := v1) hS (y_move hS rfl) rfl rfl fun a hS => ?_)
    refine wl rfl (ky (v := .int .i64 (vals_.length : Int)) hS (y_len (R := (Rep.int .i64)) (xs := vals_) hS sl23 rfl 0 rfl) rfl rfl fun a hS => ?_)
    refine wl rfl (ky (v := .int .i64 0) hS (y_move hS rfl) rfl rfl fun a hS => ?_)
    refine wpList_nil ?_
    try simp only [Exit.then, Exit.inBlock, ↓reduceIte, Nat.reduceEqDiff]
    refine hK28 _ _ ?_
    refine wp_block ?_
    obtain ⟨r1, hl1, hMo1⟩ := bd hM
    refine wp_lp (fun s : Int × Int × Int => cmp_Or_l2 vals_ s.1 s.2.1 s.2.2) (fun s a w => ∃ (zero49 : Int) (g50 : Int) (g51 : Int), (zero49, g50, g51) = s ∧ St W0 No T 18 [(3, .int .i64 zero49), (6, v1), (7, .int .i64 g50), (8, .int .i64 g51)] [] [SlF (Rep.int .i64) v1 vals_] a w) hl1 ⟨0, (vals_.length : Int), 0, rfl, (hS.meet [] (by decide) ⟨rfl, rfl, rfl, rfl, trivial⟩ trivial ⟨⟨0, rfl⟩, trivial⟩)⟩ ?_
    rintro s a w f1 ⟨zero49, g50, g51, rfl, hS⟩ hM hf1
    have hM : cmp_Or_l2 vals_ zero49 g50 g51 = some f1 := hM
    unfold cmp_Or_l2 at hM
    refine wp_seq_k fun K35 hK35 => ?_
    refine r_list ?_
    refine wl rfl (ky (v := .bool (decide ((g51 : Int) < g50))) hS (y_int hS rfl rfl rfl) rfl rfl fun a hS => ?_)
    refine wpList_nil ?_
    try simp only [Exit.then, Exit.inBlock, ↓reduceIte, Nat.reduceEqDiff]
    refine hK35 _ _ ?_
    refine wp_seq_k fun K36 hK36 => ?_
    rcases bool2 (decide ((g51 : Int) < g50)) with hb63 | hb63
    · replace hM := ct hb63 hM
      refine c_t hS rfl hb63 ?_
      refine wp_skip ?_
      try simp only [Exit.then, Exit.inBlock, ↓reduceIte, Nat.reduceEqDiff]
      refine hK36 _ _ ?_
      refine wp_seq_k fun K37 hK37 => ?_
      refine wp_block ?_
      refine wp_seq_k fun K38 hK38 => ?_
      refine r_list ?_
      obtain ⟨e64, he64, hM⟩ := bd hM
      refine wl rfl (k_index (R := (Rep.int .i64)) hS sl23 ty3 rfl rfl 0 rfl he64 rfl fun b65 o66 cs68 hr67 a hS => ?_)
      obtain rfl := hr67
      refine wl rfl (ky (v := .int .i64 e64) hS (y_loadc (k := 0) hS ty3 0 rfl rfl (fun _ h => h.elim) (us := [.int .i64 e64]) rfl rfl (fun _ => rfl)) rfl rfl fun a hS => ?_)
      refine wl rfl (ky (v := .int .i64 e64) hS (y_assign hS rfl) rfl rfl fun a hS => ?_)
      refine wpList_nil ?_
      try simp only [Exit.then, Exit.inBlock, ↓reduceIte, Nat.reduceEqDiff]
      refine hK38 _ _ ?_
      refine wp_seq_k fun K39 hK39 => ?_
      refine r_list ?_
      refine wl rfl (ky (v := .int .i64 e64) hS (y_move hS rfl) rfl rfl fun a hS => ?_)
      refine wl rfl (ky (v := .int .i64 zero49) hS (y_move hS rfl) rfl rfl fun a hS => ?_)
      refine wl rfl (ky (v := .bool ((e64 : Int) != zero49)) hS (y_int hS rfl rfl rfl) rfl rfl fun a hS => ?_)
      refine wpList_nil ?_
      try simp only [Exit.then, Exit.inBlock, ↓reduceIte, Nat.reduceEqDiff]
      refine hK39 _ _ ?_
      rcases bool2 ((e64 : Int) != zero49) with hb70 | hb70
      · replace hM := ct hb70 hM
        refine c_t hS rfl hb70 ?_
        refine wp_seq_k fun K40 hK40 => ?_
        refine r_list ?_
        refine wl rfl (ky (v := .int .i64 e64) hS (y_move hS rfl) rfl rfl fun a hS => ?_)
        refine wl rfl (ky (v := .int .i64 e64) hS (y_assign hS rfl) rfl rfl fun a hS => ?_)
        refine wpList_nil ?_
        try simp only [Exit.then, Exit.inBlock, ↓reduceIte, Nat.reduceEqDiff]
        refine hK40 _ _ ?_
        refine wp_ret ?_
        injection hM with hM
        subst hM
        have hr := hf1 _ rfl
        subst hr
        replace hMo1 := el_out hMo1
        have hM := hMo1
        injection hM with hM
        subst hM
        try simp only [Exit.then, Exit.inBlock, ↓reduceIte, Nat.reduceEqDiff]
        refine ret_ok hS Tryd.results91 (res_tmp hS rfl res_nil) ?_
        exact rfl
      · replace hM := cf hb70 hM
        refine c_f hS rfl hb70 ?_
        refine wp_skip ?_
        try simp only [Exit.then, Exit.inBlock, ↓reduceIte, Nat.reduceEqDiff]
        refine hK37 _ _ ?_
        refine r_list ?_
        refine wl rfl (ky (v := .int .i64 (IntKind.i64.wrap (g51 + 1))) hS (y_int hS rfl rfl rfl) rfl rfl fun a hS => ?_)
        refine wl rfl (ky (v := .int .i64 (IntKind.i64.wrap (g51 + 1))) hS (y_move hS rfl) rfl rfl fun a hS => ?_)
        refine wpList_nil ?_
        try simp only [Exit.then, Exit.inBlock, ↓reduceIte, Nat.reduceEqDiff]
        exact ⟨(zero49, g50, IntKind.i64.wrap (g51 + 1)), (Option.some.inj hM).symm, zero49, g50, (IntKind.i64.wrap (g51 + 1)), rfl, (hS.meet [] (by decide) ⟨rfl, rfl, rfl, rfl, trivial⟩ trivial ⟨⟨1, rfl⟩, trivial⟩)⟩
    · replace hM := cf hb63 hM
      refine c_f hS rfl hb63 ?_
      refine wp_exit ?_
      try simp only [Exit.then, Exit.inBlock, ↓reduceIte, Nat.reduceEqDiff]
      injection hM with hM
      subst hM
      have hr := hf1 _ rfl
      subst hr
      replace hMo1 := el_go hMo1
      have hM : cmp_Or_j1 zero49 = some y := hMo1
      exact ⟨zero49, (hS.meet [] (by decide) ⟨rfl, trivial⟩ trivial trivial), hM⟩
  · rintro a w ⟨zero48, hS, hM⟩
    unfold cmp_Or_j1 at hM
    refine wp_seq_k fun K27 hK27 => ?_
    refine r_list ?_
    refine wl rfl (ky (v := .int .i64 zero48) hS (y_move hS rfl) rfl rfl fun a hS => ?_)
    refine wl rfl (ky (v := .int .i64 zero48) hS (y_assign hS rfl) rfl rfl fun a hS => ?_)
    refine wpList_nil ?_
    try simp only [Exit.then, Exit.inBlock, ↓reduceIte, Nat.reduceEqDiff]
    refine hK27 _ _ ?_
    refine wp_ret ?_
    injection hM with hM
    subst hM
    try simp only [Exit.then, Exit.inBlock, ↓reduceIte, Nat.reduceEqDiff]
    refine ret_ok hS Tryd.results91 (res_tmp hS rfl res_nil) ?_
    exact rfl

noncomputable def key_Cmp (a_0 : KeyD) (b_1 : KeyD) : Option Int := (cmp_Compare a_0.Kind b_1.Kind).bind fun u69 => (compareSM a_0.Text b_1.Text).bind fun u71 => (cmp_Or ([u69, u71])).bind fun u75 => some (u75)
set_option maxRecDepth 100000 in
set_option maxHeartbeats 4000000 in
theorem key_Cmp_c (T : Nat → Prop) (W0 : World) (hT : ∀ k, T k → k < W0.heap.size) (hLv : LvP T W0) (a_0 : KeyD) (b_1 : KeyD) (y : Int) (hM : key_Cmp a_0 b_1 = some y) : Rets Tryd.prog No 57 [.agg #[.int .i64 a_0.Kind, .string a_0.Text], .agg #[.int .i64 b_1.Kind, .string b_1.Text]] W0 (fun v w' => v = .int .i64 y) := by
  refine enter (c := _) Tryd.func57 rfl T 17 Tryd.ntmps57 hT rfl fun a hS => ?_
  replace hS := hS.fact LvF (LvP.dn hLv)
  unfold key_Cmp at hM
  refine wp_seq_k fun K3 hK3 => ?_
  refine r_list ?_
  refine wl rfl (k_box hS rfl (cs := [.int .i64 a_0.Kind, .string a_0.Text]) rfl rfl fun b39 hnb41 a w hk hS => ?_)
  refine wl rfl (k_box hS rfl (cs := [.int .i64 b_1.Kind, .string b_1.Text]) rfl rfl fun b42 hnb44 a w hk hS => ?_)
  refine wl rfl (ky (v := .int .i64 0) hS (y_assign hS rfl) rfl rfl fun a hS => ?_)
  refine wpList_nil ?_
  try simp only [Exit.then, Exit.inBlock, ↓reduceIte, Nat.reduceEqDiff]
  refine hK3 _ _ ?_
  refine wp_seq_k fun K4 hK4 => ?_
  refine draws [] hS mixed rfl (fun c a d v w h => by cases d <;> exact h) fun w hQ hS => ?_
  refine dy 0 (v := .pointer (some ⟨b39, 0 + 0, none⟩)) rfl (by kernel_rfl) (by kernel_rfl) (by kernel_rfl) rfl hQ hS (y_fld hS rfl fl28_0) rfl rfl rfl fun a hS => ?_
  refine dy (l := []) 1 (v := .int .i64 a_0.Kind) rfl (by kernel_rfl) (by kernel_rfl) (by kernel_rfl) (by kernel_rfl) hQ hS (y_load hS rfl ty3 1 rfl eo_nil (us := [.int .i64 a_0.Kind]) rfl rfl (fun _ => rfl)) rfl rfl rfl fun a hS => ?_
  refine dy 2 (v := .pointer (some ⟨b42, 0 + 0, none⟩)) rfl (by kernel_rfl) (by kernel_rfl) (by kernel_rfl) rfl hQ hS (y_fld hS rfl fl28_0) rfl rfl rfl fun a hS => ?_
  refine dy (l := []) 3 (v := .int .i64 b_1.Kind) rfl (by kernel_rfl) (by kernel_rfl) (by kernel_rfl) (by kernel_rfl) hQ hS (y_load hS rfl ty3 0 rfl eo_nil (us := [.int .i64 b_1.Kind]) rfl rfl (fun _ => rfl)) rfl rfl rfl fun a hS => ?_
  refine dy 5 (v := .pointer (some ⟨b39, 0 + 1, none⟩)) rfl (by kernel_rfl) (by kernel_rfl) (by kernel_rfl) rfl hQ hS (y_fld hS rfl fl28_1) rfl rfl rfl fun a hS => ?_
  refine dy (l := []) 6 (v := .string a_0.Text) rfl (by kernel_rfl) (by kernel_rfl) (by kernel_rfl) (by kernel_rfl) hQ hS (y_load hS rfl ty9 1 rfl eo_nil (us := [.string a_0.Text]) rfl rfl (fun _ => rfl)) rfl rfl rfl fun a hS => ?_
  refine dy 7 (v := .pointer (some ⟨b42, 0 + 1, none⟩)) rfl (by kernel_rfl) (by kernel_rfl) (by kernel_rfl) rfl hQ hS (y_fld hS rfl fl28_1) rfl rfl rfl fun a hS => ?_
  refine dy (l := []) 8 (v := .string b_1.Text) rfl (by kernel_rfl) (by kernel_rfl) (by kernel_rfl) (by kernel_rfl) hQ hS (y_load hS rfl ty9 0 rfl eo_nil (us := [.string b_1.Text]) rfl rfl (fun _ => rfl)) rfl rfl rfl fun a hS => ?_
  obtain ⟨u69, hu69, hM⟩ := bd hM
  refine wpE_one (i := 4) rfl (by kernel_rfl) rfl (k_call hS ci92 rfl rfl (cmp_Compare_c _ _ hS.dlt a_0.Kind b_1.Kind _ hu69) fun _ w hR a hk hA => ⟨stN (hk), ?_⟩)
  have he := Eq.symm hR
  subst he
  have hS := hA [] (fun r hr => by cases hr) List.Pairwise.nil
  obtain ⟨u71, hu71, hM⟩ := bd hM
  refine wpE_one (i := 9) rfl (by kernel_rfl) rfl (k_call hS ci93 rfl rfl (compareSM_c _ _ hS.dlt (hS.get 0 rfl) a_0.Text b_1.Text _ hu71) fun _ w hR a hk hA => ⟨stN (hk), ?_⟩)
  have he := Eq.symm hR
  subst he
  have hS := hA [] (fun r hr => by cases hr) List.Pairwise.nil
  refine wpE_one (i := 10) rfl (by kernel_rfl) rfl (k_bslice (ps := [(0, .tmp 9), (1, .tmp 14)]) hS el23 ze3 (zl := [.int .i64 0, .int .i64 0]) (by kernel_rfl) rfl (us := [[.int .i64 u69], [.int .i64 u71]]) ⟨rfl, ⟨rfl, trivial⟩⟩ (ws := [.int .i64 u69, .int .i64 u71]) rfl rfl rfl rfl fun b73 a w hk hS => ⟨stN (hk), ?_⟩)
  replace hS := hS.lit (R := (Rep.int .i64)) (us := [.int .i64 u69, .int .i64 u71]) (xs := [u69, u71]) 0 rfl (by decide) ((RowsOk.one_ (R := (Rep.int .i64)) (x := u69) rfl).append (RowsOk.one_ (R := (Rep.int .i64)) (x := u71) rfl)) rfl rfl
  have hL := hS
  replace hL := hL.freeze (R := (Rep.int .i64)) 0 rfl 0 rfl
  obtain ⟨u75, hu75, hM⟩ := bd hM
  refine wpE_one (i := 11) rfl (by kernel_rfl) rfl (k_call hS ci91 rfl rfl (cmp_Or_c _ _ hL.dlt ([u69, u71]) _ (hL.get 0 rfl) _ hu75) fun _ w hR a hk hA => ⟨stN (hk), ?_⟩)
  have he := Eq.symm hR
  subst he
  have hS := hA [] (fun r hr => by cases hr) List.Pairwise.nil
  refine dy 12 (v := .int .i64 u75) rfl (by kernel_rfl) (by kernel_rfl) (by kernel_rfl) rfl hQ hS (y_assign hS rfl) rfl rfl rfl fun a hS => ?_
  refine wpE_done (by kernel_rfl) ?_ _
  try simp only [Exit.then, Exit.inBlock, ↓reduceIte, Nat.reduceEqDiff]
  refine hK4 _ _ ?_
  refine wp_ret ?_
  injection hM with hM
  subst hM
  try simp only [Exit.then, Exit.inBlock, ↓reduceIte, Nat.reduceEqDiff]
  refine ret_ok hS Tryd.results57 (res_tmp hS rfl res_nil) ?_
  exact rfl

noncomputable def record_place_1 (r_0 : RecordD) (k_1 : KeyD) : Option Int := (key_Cmp r_0.Key k_1).bind fun u15 => some (u15)
set_option maxRecDepth 100000 in
set_option maxHeartbeats 4000000 in
theorem record_place_1_c (T : Nat → Prop) (W0 : World) (hT : ∀ k, T k → k < W0.heap.size) (hLv : LvP T W0) (r_0 : RecordD) (k_1 : KeyD) (v1 : Value) (hv1 : SlR R_KeyD T W0 v1 r_0.Reads) (y : Int) (hM : record_place_1 r_0 k_1 = some y) : Rets Tryd.prog No 102 [.agg #[.int .i64 r_0.Key.Kind, .string r_0.Key.Text, .string r_0.Value, v1, .int .i64 r_0.Changed, .int .i64 r_0.Verified, .int .i64 r_0.Cost, .bool r_0.Dirty], .agg #[.int .i64 k_1.Kind, .string k_1.Text]] W0 (fun v w' => v = .int .i64 y) := by
  refine enter (c := _) Tryd.func102 rfl T 9 Tryd.ntmps102 hT rfl fun a hS => ?_
  replace hS := hS.fact LvF (LvP.dn hLv)
  replace hS := hS.fact (SlF R_KeyD v1 r_0.Reads) (SlR.dn hv1)
  unfold record_place_1 at hM
  refine wp_seq_k fun K3 hK3 => ?_
  refine r_list ?_
  refine wl rfl (k_box hS rfl (cs := [.int .i64 r_0.Key.Kind, .string r_0.Key.Text, .string r_0.Value, v1, .int .i64 r_0.Changed, .int .i64 r_0.Verified, .int .i64 r_0.Cost, .bool r_0.Dirty]) rfl rfl fun b9 hnb11 a w hk hS => ?_)
  refine wl rfl (k_box hS rfl (cs := [.int .i64 k_1.Kind, .string k_1.Text]) rfl rfl fun b12 hnb14 a w hk hS => ?_)
  refine wl rfl (ky (v := .int .i64 0) hS (y_assign hS rfl) rfl rfl fun a hS => ?_)
  refine wpList_nil ?_
  try simp only [Exit.then, Exit.inBlock, ↓reduceIte, Nat.reduceEqDiff]
  refine hK3 _ _ ?_
  refine wp_seq_k fun K4 hK4 => ?_
  refine r_list ?_
  refine wl rfl (ky (v := .pointer (some ⟨b9, 0 + 0, none⟩)) hS (y_fld hS rfl fl54_0) rfl rfl fun a hS => ?_)
  refine wl rfl (ky (v := .agg #[.int .i64 r_0.Key.Kind, .string r_0.Key.Text]) hS (y_load hS rfl ty28 1 rfl id (us := [.int .i64 r_0.Key.Kind, .string r_0.Key.Text]) rfl rfl (fun h => by cases h)) rfl rfl fun a hS => ?_)
  refine wl rfl (ky (v := .agg #[.int .i64 k_1.Kind, .string k_1.Text]) hS (y_load hS rfl ty28 0 rfl id (us := [.int .i64 k_1.Kind, .string k_1.Text]) rfl rfl (fun h => by cases h)) rfl rfl fun a hS => ?_)
  obtain ⟨u15, hu15, hM⟩ := bd hM
  refine wl rfl (k_call hS ci57 rfl rfl (key_Cmp_c _ _ hS.dlt (hS.get 1 rfl) r_0.Key k_1 _ hu15) fun _ w hR a hk hA => ?_)
  have he := Eq.symm hR
  subst he
  have hS := hA [] (fun r hr => by cases hr) List.Pairwise.nil
  refine wl rfl (ky (v := .int .i64 u15) hS (y_assign hS rfl) rfl rfl fun a hS => ?_)
  refine wpList_nil ?_
  try simp only [Exit.then, Exit.inBlock, ↓reduceIte, Nat.reduceEqDiff]
  refine hK4 _ _ ?_
  refine wp_ret ?_
  injection hM with hM
  subst hM
  try simp only [Exit.then, Exit.inBlock, ↓reduceIte, Nat.reduceEqDiff]
  refine ret_ok hS Tryd.results102 (res_tmp hS rfl res_nil) ?_
  exact rfl

noncomputable def bsearch_j1 (i307 : Int) (g352 : Bool) : Option (Int × Bool) := some ((i307, g352))
noncomputable def bsearch_j2 (x_0 : (List RecordD)) (target_ : KeyD) (cmp_ : RecordD → KeyD → Option Int) (i307 : Int) : Option (Int × Bool) := cond (decide ((i307 : Int) < (x_0.length : Int))) ((getI x_0 i307).bind fun e365 => (cmp_ e365 target_).bind fun u373 => bsearch_j1 i307 ((u373 : Int) == 0)) (bsearch_j1 i307 false)
noncomputable def bsearch_l3 (x_0 : (List RecordD)) (target_ : KeyD) (cmp_ : RecordD → KeyD → Option Int) (i419 : Int) (j420 : Int) : Option (Fl (Int × Int) (Int)) := cond (decide ((i419 : Int) < j420)) ((getI x_0 (IntKind.i64.wrap (shrI .u64 (IntKind.u64.wrap (IntKind.i64.wrap (i419 + j420))) 1))).bind fun e496 => (cmp_ e496 target_).bind fun u504 => cond (decide ((u504 : Int) < 0)) (some (.go (IntKind.i64.wrap ((IntKind.i64.wrap (shrI .u64 (IntKind.u64.wrap (IntKind.i64.wrap (i419 + j420))) 1)) + 1), j420))) (some (.go (i419, IntKind.i64.wrap (shrI .u64 (IntKind.u64.wrap (IntKind.i64.wrap (i419 + j420))) 1))))) (some (.out i419))
noncomputable def bsearch (cmp_ : RecordD → KeyD → Option Int) (x_0 : (List RecordD)) (target_ : KeyD) : Option (Int × Bool) := (loop (fun s : Int × Int => bsearch_l3 x_0 target_ cmp_ s.1 s.2) (0, (x_0.length : Int))).bind fun r => bsearch_j2 x_0 target_ cmp_ r
set_option maxRecDepth 100000 in
set_option maxHeartbeats 4000000 in
theorem bsearch_c (T : Nat → Prop) (W0 : World) (hT : ∀ k, T k → k < W0.heap.size) (hLv : LvP T W0) (cmp_g : Nat) (hccmp_ : callI Tryd.prog cmp_g = true) (cmp_k : List Value) (cmp_P : Fact) (cmp_ : RecordD → KeyD → Option Int) (hcmp_ : ∀ (T : Nat → Prop) (W0 : World) (hT : ∀ k, T k → k < W0.heap.size) (hLv : LvP T W0) (hP : cmp_P.p T W0) (x0 : RecordD) (x1 : KeyD) (vq1 : Value) (hvq1 : SlR R_KeyD T W0 vq1 x0.Reads) (y : Int) (hM : cmp_ x0 x1 = some y), Rets Tryd.prog No cmp_g ([.agg #[.int .i64 x0.Key.Kind, .string x0.Key.Text, .string x0.Value, vq1, .int .i64 x0.Changed, .int .i64 x0.Verified, .int .i64 x0.Cost, .bool x0.Dirty], .agg #[.int .i64 x1.Kind, .string x1.Text]] ++ cmp_k) W0 (fun v w' => v = .int .i64 y)) (hPcmp_ : cmp_P.p T W0) (x_0 : (List RecordD)) (target_ : KeyD) (v1 : Value) (hv1 : SlR R_RecordD T W0 v1 x_0) (y : Int × Bool) (hM : bsearch cmp_ x_0 target_ = some y) : Rets Tryd.prog No 101 [v1, .agg #[.int .i64 target_.Kind, .string target_.Text], .func (.func cmp_g) #[] cmp_k.toArray] W0 (fun v w' => v = .tuple #[.int .i64 y.1, .bool y.2]) := by
  refine enter (c := _) Tryd.func101 rfl T 49 Tryd.ntmps101 hT rfl fun a hS => ?_
  replace hS := hS.fact cmp_P (Fact.dn _ hPcmp_)
  replace hS := hS.fact LvF (LvP.dn hLv)
  replace hS := hS.fact (SlF R_RecordD v1 x_0) (SlR.dn hv1)
  unfold bsearch at hM
  refine wp_seq_k fun K16 hK16 => ?_
  refine r_list ?_
  refine wl rfl (k_box hS rfl (cs := [.int .i64 target_.Kind, .string target_.Text]) rfl rfl fun b214 hnb216 a w hk hS => ?_)
  refine wl rfl (ky (v := .int .i64 0) hS (y_assign hS rfl) rfl rfl fun a hS => ?_)
  refine wl rfl (ky (v := .bool false) hS (y_assign hS rfl) rfl rfl fun a hS => ?_)
  refine wpList_nil ?_
  try simp only [Exit.then, Exit.inBlock, ↓reduceIte, Nat.reduceEqDiff]
  refine hK16 _ _ ?_
  refine wp_seq_k fun K17 hK17 => ?_
  refine r_list ?_
  refine wl rfl (ky (v := v1) hS (y_move hS rfl) rfl rfl fun a hS => ?_)
  refine wl rfl (ky (v := .int .i64 (x_0.length : Int)) hS (y_len (R := R_RecordD) (xs := x_0) hS sl51 rfl 0 rfl) rfl rfl fun a hS => ?_)
  refine wl rfl (ky (v := .int .i64 (x_0.length : Int)) hS (y_assign hS rfl) rfl rfl fun a hS => ?_)
  refine wpList_nil ?_
  try simp only [Exit.then, Exit.inBlock, ↓reduceIte, Nat.reduceEqDiff]
  refine hK17 _ _ ?_
  refine wp_seq_k fun K18 hK18 => ?_
  refine r_list ?_
  refine wl rfl (ky (v := .int .i64 (x_0.length : Int)) hS (y_move hS rfl) rfl rfl fun a hS => ?_)
  refine wl rfl (ky (v := .int .i64 0) hS (y_assign hS rfl) rfl rfl fun a hS => ?_)
  refine wl rfl (ky (v := .int .i64 (x_0.length : Int)) hS (y_assign hS rfl) rfl rfl fun a hS => ?_)
  refine wpList_nil ?_
  try simp only [Exit.then, Exit.inBlock, ↓reduceIte, Nat.reduceEqDiff]
  refine hK18 _ _ ?_
  refine seq_j (J := fun a w => ∃ (i307 : Int), St W0 No T 49 [(0, v1), (2, .func (.func cmp_g) #[] cmp_k.toArray), (4, .pointer (some ⟨b214, 0, none⟩)), (8, .int .i64 (x_0.length : Int)), (9, .int .i64 i307)] [.box b214 [.int .i64 target_.Kind, .string target_.Text] 28] [SlF R_RecordD v1 x_0, LvF, cmp_P] a w ∧ bsearch_j2 x_0 target_ cmp_ i307 = some y) ?_ ?_
  · skip
    refine wp_block ?_
    obtain ⟨r1, hl1, hMo1⟩ := bd hM
    refine wp_lp (fun s : Int × Int => bsearch_l3 x_0 target_ cmp_ s.1 s.2) (fun s a w => ∃ (i419 : Int) (j420 : Int), (i419, j420) = s ∧ St W0 No T 49 [(0, v1), (2, .func (.func cmp_g) #[] cmp_k.toArray), (4, .pointer (some ⟨b214, 0, none⟩)), (8, .int .i64 (x_0.length : Int)), (9, .int .i64 i419), (10, .int .i64 j420)] [.box b214 [.int .i64 target_.Kind, .string target_.Text] 28] [SlF R_RecordD v1 x_0, LvF, cmp_P] a w) hl1 ⟨0, (x_0.length : Int), rfl, (hS.meet [0] (by decide) ⟨rfl, rfl, rfl, rfl, rfl, rfl, trivial⟩ ⟨rfl, trivial⟩ ⟨⟨0, rfl⟩, ⟨1, rfl⟩, ⟨2, rfl⟩, trivial⟩)⟩ ?_
    rintro s a w f1 ⟨i419, j420, rfl, hS⟩ hM hf1
    have hM : bsearch_l3 x_0 target_ cmp_ i419 j420 = some f1 := hM
    unfold bsearch_l3 at hM
    refine wp_seq_k fun K35 hK35 => ?_
    refine wp_seq_k fun K36 hK36 => ?_
    refine r_list ?_
    refine wl rfl (ky (v := .int .i64 i419) hS (y_move hS rfl) rfl rfl fun a hS => ?_)
    refine wl rfl (ky (v := .int .i64 j420) hS (y_move hS rfl) rfl rfl fun a hS => ?_)
    refine wl rfl (ky (v := .bool (decide ((i419 : Int) < j420))) hS (y_int hS rfl rfl rfl) rfl rfl fun a hS => ?_)
    refine wpList_nil ?_
    try simp only [Exit.then, Exit.inBlock, ↓reduceIte, Nat.reduceEqDiff]
    refine hK36 _ _ ?_
    rcases bool2 (decide ((i419 : Int) < j420)) with hb465 | hb465
    · replace hM := ct hb465 hM
      refine c_t hS rfl hb465 ?_
      refine wp_skip ?_
      try simp only [Exit.then, Exit.inBlock, ↓reduceIte, Nat.reduceEqDiff]
      refine hK35 _ _ ?_
      refine wp_block ?_
      refine wp_seq_k fun K37 hK37 => ?_
      refine r_list ?_
      refine wl rfl (ky (v := .int .i64 i419) hS (y_move hS rfl) rfl rfl fun a hS => ?_)
      refine wl rfl (ky (v := .int .i64 j420) hS (y_move hS rfl) rfl rfl fun a hS => ?_)
      refine wl rfl (ky (v := .int .i64 (IntKind.i64.wrap (i419 + j420))) hS (y_int hS rfl rfl rfl) rfl rfl fun a hS => ?_)
      refine wl rfl (ky (v := .int .u64 (IntKind.u64.wrap (IntKind.i64.wrap (i419 + j420)))) hS (y_conv hS rfl Tryd.underlying3 Tryd.underlying90) rfl rfl fun a hS => ?_)
      refine wl rfl (ky (v := .int .u64 (shrI .u64 (IntKind.u64.wrap (IntKind.i64.wrap (i419 + j420))) 1)) hS (y_shr hS rfl rfl rfl) rfl rfl fun a hS => ?_)
      refine wl rfl (ky (v := .int .i64 (IntKind.i64.wrap (shrI .u64 (IntKind.u64.wrap (IntKind.i64.wrap (i419 + j420))) 1))) hS (y_conv hS rfl Tryd.underlying90 Tryd.underlying3) rfl rfl fun a hS => ?_)
      refine wl rfl (ky (v := .int .i64 (IntKind.i64.wrap (shrI .u64 (IntKind.u64.wrap (IntKind.i64.wrap (i419 + j420))) 1))) hS (y_assign hS rfl) rfl rfl fun a hS => ?_)
      refine wpList_nil ?_
      try simp only [Exit.then, Exit.inBlock, ↓reduceIte, Nat.reduceEqDiff]
      refine hK37 _ _ ?_
      refine wp_seq_k fun K38 hK38 => ?_
      refine draws [] hS mixed rfl (fun c a d v w h => by cases d <;> exact h) fun w hQ hS => ?_
      refine dy 0 (v := .func (.func cmp_g) #[] cmp_k.toArray) rfl (by kernel_rfl) (by kernel_rfl) (by kernel_rfl) rfl hQ hS (y_move hS rfl) rfl rfl rfl fun a hS => ?_
      refine dy 1 (v := v1) rfl (by kernel_rfl) (by kernel_rfl) (by kernel_rfl) rfl hQ hS (y_move hS rfl) rfl rfl rfl fun a hS => ?_
      refine dy 2 (v := .int .i64 (IntKind.i64.wrap (shrI .u64 (IntKind.u64.wrap (IntKind.i64.wrap (i419 + j420))) 1))) rfl (by kernel_rfl) (by kernel_rfl) (by kernel_rfl) rfl hQ hS (y_move hS rfl) rfl rfl rfl fun a hS => ?_
      obtain ⟨e496, he496, hM⟩ := bd hM
      obtain ⟨b498, o499, cs501, hr500, hy503, hS⟩ := d_index (R := R_RecordD) hS sl51 ty54 0 rfl he496
      obtain ⟨v497, rfl, hv497⟩ := hr500
      replace hS := hS.fact (SlF R_KeyD v497 e496.Reads) hv497
      refine dy 3 (v := .pointer (some ⟨b498, o499, none⟩)) rfl (by kernel_rfl) (by kernel_rfl) (by kernel_rfl) rfl hQ hS (hy503 rfl rfl) rfl rfl rfl fun a hS => ?_
      refine dy (l := []) 4 (v := .agg #[.int .i64 e496.Key.Kind, .string e496.Key.Text, .string e496.Value, v497, .int .i64 e496.Changed, .int .i64 e496.Verified, .int .i64 e496.Cost, .bool e496.Dirty]) rfl (by kernel_rfl) (by kernel_rfl) (by kernel_rfl) (by kernel_rfl) hQ hS (y_loadc (k := 0) hS ty54 1 rfl rfl es_nil (us := [.int .i64 e496.Key.Kind, .string e496.Key.Text, .string e496.Value, v497, .int .i64 e496.Changed, .int .i64 e496.Verified, .int .i64 e496.Cost, .bool e496.Dirty]) rfl rfl (fun h => by cases h)) rfl rfl rfl fun a hS => ?_
      refine dy (l := []) 5 (v := .agg #[.int .i64 target_.Kind, .string target_.Text]) rfl (by kernel_rfl) (by kernel_rfl) (by kernel_rfl) (by kernel_rfl) hQ hS (y_load hS rfl ty28 0 rfl eo_nil (us := [.int .i64 target_.Kind, .string target_.Text]) rfl rfl (fun h => by cases h)) rfl rfl rfl fun a hS => ?_
      obtain ⟨u504, hu504, hM⟩ := bd hM
      refine wpE_one (i := 6) rfl (by kernel_rfl) rfl (k_callv (cap := cmp_k) hS rfl hccmp_ rfl rfl (hcmp_ _ _ hS.dlt (hS.get 3 rfl) (hS.get 4 rfl) e496 target_ _ (hS.get 0 rfl) _ hu504) fun _ w hR a hk hA => ⟨stN (hk), ?_⟩)
      have he := Eq.symm hR
      subst he
      have hS := hA [] (fun r hr => by cases hr) List.Pairwise.nil
      refine dy 7 (v := .bool (decide ((u504 : Int) < 0))) rfl (by kernel_rfl) (by kernel_rfl) (by kernel_rfl) rfl hQ hS (y_int hS rfl rfl rfl) rfl rfl rfl fun a hS => ?_
      refine wpE_done (by kernel_rfl) ?_ _
      try simp only [Exit.then, Exit.inBlock, ↓reduceIte, Nat.reduceEqDiff]
      refine hK38 _ _ ?_
      rcases bool2 (decide ((u504 : Int) < 0)) with hb506 | hb506
      · replace hM := ct hb506 hM
        refine c_t hS rfl hb506 ?_
        refine r_list ?_
        refine wl rfl (ky (v := .int .i64 (IntKind.i64.wrap (shrI .u64 (IntKind.u64.wrap (IntKind.i64.wrap (i419 + j420))) 1))) hS (y_move hS rfl) rfl rfl fun a hS => ?_)
        refine wl rfl (ky (v := .int .i64 (IntKind.i64.wrap ((IntKind.i64.wrap (shrI .u64 (IntKind.u64.wrap (IntKind.i64.wrap (i419 + j420))) 1)) + 1))) hS (y_int hS rfl rfl rfl) rfl rfl fun a hS => ?_)
        refine wl rfl (ky (v := .int .i64 (IntKind.i64.wrap ((IntKind.i64.wrap (shrI .u64 (IntKind.u64.wrap (IntKind.i64.wrap (i419 + j420))) 1)) + 1))) hS (y_assign hS rfl) rfl rfl fun a hS => ?_)
        refine wpList_nil ?_
        try simp only [Exit.then, Exit.inBlock, ↓reduceIte, Nat.reduceEqDiff]
        exact ⟨(IntKind.i64.wrap ((IntKind.i64.wrap (shrI .u64 (IntKind.u64.wrap (IntKind.i64.wrap (i419 + j420))) 1)) + 1), j420), (Option.some.inj hM).symm, (IntKind.i64.wrap ((IntKind.i64.wrap (shrI .u64 (IntKind.u64.wrap (IntKind.i64.wrap (i419 + j420))) 1)) + 1)), j420, rfl, (hS.meet [0] (by decide) ⟨rfl, rfl, rfl, rfl, rfl, rfl, trivial⟩ ⟨rfl, trivial⟩ ⟨⟨2, rfl⟩, ⟨3, rfl⟩, ⟨4, rfl⟩, trivial⟩)⟩
      · replace hM := cf hb506 hM
        refine c_f hS rfl hb506 ?_
        refine r_list ?_
        refine wl rfl (ky (v := .int .i64 (IntKind.i64.wrap (shrI .u64 (IntKind.u64.wrap (IntKind.i64.wrap (i419 + j420))) 1))) hS (y_move hS rfl) rfl rfl fun a hS => ?_)
        refine wl rfl (ky (v := .int .i64 (IntKind.i64.wrap (shrI .u64 (IntKind.u64.wrap (IntKind.i64.wrap (i419 + j420))) 1))) hS (y_assign hS rfl) rfl rfl fun a hS => ?_)
        refine wpList_nil ?_
        try simp only [Exit.then, Exit.inBlock, ↓reduceIte, Nat.reduceEqDiff]
        exact ⟨(i419, IntKind.i64.wrap (shrI .u64 (IntKind.u64.wrap (IntKind.i64.wrap (i419 + j420))) 1)), (Option.some.inj hM).symm, i419, (IntKind.i64.wrap (shrI .u64 (IntKind.u64.wrap (IntKind.i64.wrap (i419 + j420))) 1)), rfl, (hS.meet [0] (by decide) ⟨rfl, rfl, rfl, rfl, rfl, rfl, trivial⟩ ⟨rfl, trivial⟩ ⟨⟨2, rfl⟩, ⟨3, rfl⟩, ⟨4, rfl⟩, trivial⟩)⟩
    · replace hM := cf hb465 hM
      refine c_f hS rfl hb465 ?_
      refine wp_exit ?_
      try simp only [Exit.then, Exit.inBlock, ↓reduceIte, Nat.reduceEqDiff]
      injection hM with hM
      subst hM
      have hr := hf1 _ rfl
      subst hr
      have hM : bsearch_j2 x_0 target_ cmp_ i419 = some y := hMo1
      exact ⟨i419, (hS.meet [0] (by decide) ⟨rfl, rfl, rfl, rfl, rfl, trivial⟩ ⟨rfl, trivial⟩ ⟨⟨0, rfl⟩, ⟨1, rfl⟩, ⟨2, rfl⟩, trivial⟩), hM⟩
  · rintro a w ⟨i307, hS, hM⟩
    unfold bsearch_j2 at hM
    refine seq_j (J := fun a w => ∃ (g352 : Bool), St W0 No T 49 [(6, .int .i64 i307), (7, .bool g352)] [] [LvF, cmp_P] a w ∧ bsearch_j1 i307 g352 = some y) ?_ ?_
    · skip
      refine draws [] hS mixed rfl (fun c a d v w h => by cases d <;> exact h) fun w hQ hS => ?_
      refine dy 0 (v := .int .i64 i307) rfl (by kernel_rfl) (by kernel_rfl) (by kernel_rfl) rfl hQ hS (y_move hS rfl) rfl rfl rfl fun a hS => ?_
      refine dy 1 (v := .int .i64 i307) rfl (by kernel_rfl) (by kernel_rfl) (by kernel_rfl) rfl hQ hS (y_move hS rfl) rfl rfl rfl fun a hS => ?_
      refine dy 2 (v := .int .i64 (x_0.length : Int)) rfl (by kernel_rfl) (by kernel_rfl) (by kernel_rfl) rfl hQ hS (y_move hS rfl) rfl rfl rfl fun a hS => ?_
      refine dy 3 (v := .bool (decide ((i307 : Int) < (x_0.length : Int)))) rfl (by kernel_rfl) (by kernel_rfl) (by kernel_rfl) rfl hQ hS (y_int hS rfl rfl rfl) rfl rfl rfl fun a hS => ?_
      refine dy 4 (v := .bool (decide ((i307 : Int) < (x_0.length : Int)))) rfl (by kernel_rfl) (by kernel_rfl) (by kernel_rfl) rfl hQ hS (y_move hS rfl) rfl rfl rfl fun a hS => ?_
      rcases bool2 (decide ((i307 : Int) < (x_0.length : Int))) with hb364 | hb364
      · replace hM := ct hb364 hM
        refine dyg 5 (v := .func (.func cmp_g) #[] cmp_k.toArray) rfl (by kernel_rfl) (by kernel_rfl) (by kernel_rfl) rfl hQ hS (y_move hS rfl) rfl rfl rfl hb364 rfl rfl fun a hS => ?_
        refine dyg 6 (v := v1) rfl (by kernel_rfl) (by kernel_rfl) (by kernel_rfl) rfl hQ hS (y_move hS rfl) rfl rfl rfl hb364 rfl rfl fun a hS => ?_
        refine dyg 7 (v := .int .i64 i307) rfl (by kernel_rfl) (by kernel_rfl) (by kernel_rfl) rfl hQ hS (y_move hS rfl) rfl rfl rfl hb364 rfl rfl fun a hS => ?_
        obtain ⟨e365, he365, hM⟩ := bd hM
        obtain ⟨b367, o368, cs370, hr369, hy372, hS⟩ := d_index (R := R_RecordD) hS sl51 ty54 0 rfl he365
        obtain ⟨v366, rfl, hv366⟩ := hr369
        replace hS := hS.fact (SlF R_KeyD v366 e365.Reads) hv366
        refine dyg 8 (v := .pointer (some ⟨b367, o368, none⟩)) rfl (by kernel_rfl) (by kernel_rfl) (by kernel_rfl) rfl hQ hS (hy372 rfl rfl) rfl rfl rfl hb364 rfl rfl fun a hS => ?_
        refine dyg (l := []) 9 (v := .agg #[.int .i64 e365.Key.Kind, .string e365.Key.Text, .string e365.Value, v366, .int .i64 e365.Changed, .int .i64 e365.Verified, .int .i64 e365.Cost, .bool e365.Dirty]) rfl (by kernel_rfl) (by kernel_rfl) (by kernel_rfl) (by kernel_rfl) hQ hS (y_loadc (k := 0) hS ty54 1 rfl rfl es_nil (us := [.int .i64 e365.Key.Kind, .string e365.Key.Text, .string e365.Value, v366, .int .i64 e365.Changed, .int .i64 e365.Verified, .int .i64 e365.Cost, .bool e365.Dirty]) rfl rfl (fun h => by cases h)) rfl rfl rfl hb364 rfl rfl fun a hS => ?_
        refine dyg (l := []) 10 (v := .agg #[.int .i64 target_.Kind, .string target_.Text]) rfl (by kernel_rfl) (by kernel_rfl) (by kernel_rfl) (by kernel_rfl) hQ hS (y_load hS rfl ty28 0 rfl eo_nil (us := [.int .i64 target_.Kind, .string target_.Text]) rfl rfl (fun h => by cases h)) rfl rfl rfl hb364 rfl rfl fun a hS => ?_
        obtain ⟨u373, hu373, hM⟩ := bd hM
        refine wpE_oneg (i := 11) rfl (by kernel_rfl) hS rfl rfl rfl hb364 (k_callv (cap := cmp_k) hS rfl hccmp_ rfl rfl (hcmp_ _ _ hS.dlt (hS.get 3 rfl) (hS.get 4 rfl) e365 target_ _ (hS.get 0 rfl) _ hu373) fun _ w hR a hk hA => ⟨stN (hk), ?_⟩)
        have he := Eq.symm hR
        subst he
        have hS := hA [] (fun r hr => by cases hr) List.Pairwise.nil
        refine dyg 12 (v := .bool ((u373 : Int) == 0)) rfl (by kernel_rfl) (by kernel_rfl) (by kernel_rfl) rfl hQ hS (y_int hS rfl rfl rfl) rfl rfl rfl hb364 rfl rfl fun a hS => ?_
        refine dy 13 (v := .bool ((u373 : Int) == 0)) rfl (by kernel_rfl) (by kernel_rfl) (by kernel_rfl) rfl hQ hS (y_pickt hS rfl hb364 rfl) rfl rfl rfl fun a hS => ?_
        refine dy 14 (v := .int .i64 i307) rfl (by kernel_rfl) (by kernel_rfl) (by kernel_rfl) rfl hQ hS (y_assign hS rfl) rfl rfl rfl fun a hS => ?_
        refine dy 15 (v := .bool ((u373 : Int) == 0)) rfl (by kernel_rfl) (by kernel_rfl) (by kernel_rfl) rfl hQ hS (y_assign hS rfl) rfl rfl rfl fun a hS => ?_
        refine wpE_done (by kernel_rfl) ?_ _
        try simp only [Exit.then, Exit.inBlock, ↓reduceIte, Nat.reduceEqDiff]
        exact ⟨((u373 : Int) == 0), (hS.meet [] (by decide) ⟨rfl, rfl, trivial⟩ trivial ⟨⟨3, rfl⟩, ⟨4, rfl⟩, trivial⟩), hM⟩
      · replace hM := cf hb364 hM
        refine dyn 5 rfl (by kernel_rfl) (by kernel_rfl) (by kernel_rfl) hQ hS rfl rfl rfl hb364 rfl rfl fun a hS => ?_
        refine dyn 6 rfl (by kernel_rfl) (by kernel_rfl) (by kernel_rfl) hQ hS rfl rfl rfl hb364 rfl rfl fun a hS => ?_
        refine dyn 7 rfl (by kernel_rfl) (by kernel_rfl) (by kernel_rfl) hQ hS rfl rfl rfl hb364 rfl rfl fun a hS => ?_
        refine dyn 8 rfl (by kernel_rfl) (by kernel_rfl) (by kernel_rfl) hQ hS rfl rfl rfl hb364 rfl rfl fun a hS => ?_
        refine dyn 9 rfl (by kernel_rfl) (by kernel_rfl) (by kernel_rfl) hQ hS rfl rfl rfl hb364 rfl rfl fun a hS => ?_
        refine dyn 10 rfl (by kernel_rfl) (by kernel_rfl) (by kernel_rfl) hQ hS rfl rfl rfl hb364 rfl rfl fun a hS => ?_
        refine dyn 11 rfl (by kernel_rfl) (by kernel_rfl) (by kernel_rfl) hQ hS rfl rfl rfl hb364 rfl rfl fun a hS => ?_
        refine dyn 12 rfl (by kernel_rfl) (by kernel_rfl) (by kernel_rfl) hQ hS rfl rfl rfl hb364 rfl rfl fun a hS => ?_
        refine dy 13 (v := .bool false) rfl (by kernel_rfl) (by kernel_rfl) (by kernel_rfl) rfl hQ hS (y_pickf hS rfl hb364 rfl) rfl rfl rfl fun a hS => ?_
        refine dy 14 (v := .int .i64 i307) rfl (by kernel_rfl) (by kernel_rfl) (by kernel_rfl) rfl hQ hS (y_assign hS rfl) rfl rfl rfl fun a hS => ?_
        refine dy 15 (v := .bool false) rfl (by kernel_rfl) (by kernel_rfl) (by kernel_rfl) rfl hQ hS (y_assign hS rfl) rfl rfl rfl fun a hS => ?_
        refine wpE_done (by kernel_rfl) ?_ _
        try simp only [Exit.then, Exit.inBlock, ↓reduceIte, Nat.reduceEqDiff]
        exact ⟨false, (hS.meet [] (by decide) ⟨rfl, rfl, trivial⟩ trivial ⟨⟨1, rfl⟩, ⟨2, rfl⟩, trivial⟩), hM⟩
    · rintro a w ⟨g352, hS, hM⟩
      unfold bsearch_j1 at hM
      refine wp_ret ?_
      injection hM with hM
      subst hM
      try simp only [Exit.then, Exit.inBlock, ↓reduceIte, Nat.reduceEqDiff]
      refine ret_ok hS Tryd.results101 (res_tmp hS rfl (res_tmp hS rfl res_nil)) ?_
      exact rfl

noncomputable def record_place (l_0 : (List RecordD)) (k_1 : KeyD) : Option (Int × Bool) := (bsearch record_place_1 l_0 k_1).bind fun u9 => some ((u9.1, u9.2))
set_option maxRecDepth 100000 in
set_option maxHeartbeats 4000000 in
theorem record_place_c (T : Nat → Prop) (W0 : World) (hT : ∀ k, T k → k < W0.heap.size) (hLv : LvP T W0) (l_0 : (List RecordD)) (k_1 : KeyD) (v1 : Value) (hv1 : SlR R_RecordD T W0 v1 l_0) (y : Int × Bool) (hM : record_place l_0 k_1 = some y) : Rets Tryd.prog No 76 [v1, .agg #[.int .i64 k_1.Kind, .string k_1.Text]] W0 (fun v w' => v = .tuple #[.int .i64 y.1, .bool y.2]) := by
  refine enter (c := _) Tryd.func76 rfl T 11 Tryd.ntmps76 hT rfl fun a hS => ?_
  replace hS := hS.fact LvF (LvP.dn hLv)
  replace hS := hS.fact (SlF R_RecordD v1 l_0) (SlR.dn hv1)
  unfold record_place at hM
  refine wp_seq_k fun K3 hK3 => ?_
  refine r_list ?_
  refine wl rfl (k_box hS rfl (cs := [.int .i64 k_1.Kind, .string k_1.Text]) rfl rfl fun b6 hnb8 a w hk hS => ?_)
  refine wl rfl (ky (v := .int .i64 0) hS (y_assign hS rfl) rfl rfl fun a hS => ?_)
  refine wl rfl (ky (v := .bool false) hS (y_assign hS rfl) rfl rfl fun a hS => ?_)
  refine wpList_nil ?_
  try simp only [Exit.then, Exit.inBlock, ↓reduceIte, Nat.reduceEqDiff]
  refine hK3 _ _ ?_
  refine wp_seq_k fun K4 hK4 => ?_
  refine r_list ?_
  refine wl rfl (ky (v := v1) hS (y_move hS rfl) rfl rfl fun a hS => ?_)
  refine wl rfl (ky (v := .agg #[.int .i64 k_1.Kind, .string k_1.Text]) hS (y_load hS rfl ty28 0 rfl id (us := [.int .i64 k_1.Kind, .string k_1.Text]) rfl rfl (fun h => by cases h)) rfl rfl fun a hS => ?_)
  obtain ⟨u9, hu9, hM⟩ := bd hM
  refine wl rfl (k_call hS ci101 rfl rfl (bsearch_c _ _ hS.dlt (hS.get 1 rfl) 102 ci102 [] TrueF record_place_1 (fun T W0 hT hLv _ x0 x1 v1 hv1 y hM => record_place_1_c T W0 hT hLv x0 x1 v1 hv1 y hM) trivial l_0 k_1 _ (hS.get 0 rfl) _ hu9) fun _ w hR a hk hA => ?_)
  have he := Eq.symm hR
  subst he
  have hS := hA [] (fun r hr => by cases hr) List.Pairwise.nil
  refine wl rfl (ky (v := .int .i64 u9.1) hS (y_ex hS rfl rfl) rfl rfl fun a hS => ?_)
  refine wl rfl (ky (v := .bool u9.2) hS (y_ex hS rfl rfl) rfl rfl fun a hS => ?_)
  refine wl rfl (ky (v := .int .i64 u9.1) hS (y_assign hS rfl) rfl rfl fun a hS => ?_)
  refine wl rfl (ky (v := .bool u9.2) hS (y_assign hS rfl) rfl rfl fun a hS => ?_)
  refine wpList_nil ?_
  try simp only [Exit.then, Exit.inBlock, ↓reduceIte, Nat.reduceEqDiff]
  refine hK4 _ _ ?_
  refine wp_ret ?_
  injection hM with hM
  subst hM
  try simp only [Exit.then, Exit.inBlock, ↓reduceIte, Nat.reduceEqDiff]
  refine ret_ok hS Tryd.results76 (res_tmp hS rfl (res_tmp hS rfl res_nil)) ?_
  exact rfl

noncomputable def indexf_Record_j1 : Option Int := some ((-1))
noncomputable def indexf_Record_l2 (s_0 : (List RecordD)) (f_1 : RecordD → Option Bool) (g50 : Int) (g51 : Int) : Option (Fl (Int × Int) (Fl (Unit) Int)) := cond (decide ((g51 : Int) < g50)) ((getI s_0 g51).bind fun e66 => (f_1 e66).bind fun u73 => cond u73 (some (.out (.out g51))) (some (.go (g50, IntKind.i64.wrap (g51 + 1))))) (some (.out (.go ())))
noncomputable def indexf_Record (f_1 : RecordD → Option Bool) (s_0 : (List RecordD)) : Option Int := (loop (fun s : Int × Int => indexf_Record_l2 s_0 f_1 s.1 s.2) ((s_0.length : Int), 0)).bind fun r => Fl.el r (fun s => indexf_Record_j1) (fun y => some (y))
set_option maxRecDepth 100000 in
set_option maxHeartbeats 4000000 in
theorem indexf_Record_c (T : Nat → Prop) (W0 : World) (hT : ∀ k, T k → k < W0.heap.size) (hLv : LvP T W0) (f_1g : Nat) (hcf_1 : callI Tryd.prog f_1g = true) (f_1k : List Value) (f_1P : Fact) (f_1 : RecordD → Option Bool) (hf_1 : ∀ (T : Nat → Prop) (W0 : World) (hT : ∀ k, T k → k < W0.heap.size) (hLv : LvP T W0) (hP : f_1P.p T W0) (x0 : RecordD) (vq1 : Value) (hvq1 : SlR R_KeyD T W0 vq1 x0.Reads) (y : Bool) (hM : f_1 x0 = some y), Rets Tryd.prog No f_1g ([.agg #[.int .i64 x0.Key.Kind, .string x0.Key.Text, .string x0.Value, vq1, .int .i64 x0.Changed, .int .i64 x0.Verified, .int .i64 x0.Cost, .bool x0.Dirty]] ++ f_1k) W0 (fun v w' => v = .bool y)) (hPf_1 : f_1P.p T W0) (s_0 : (List RecordD)) (v1 : Value) (hv1 : SlR R_RecordD T W0 v1 s_0) (y : Int) (hM : indexf_Record f_1 s_0 = some y) : Rets Tryd.prog No 82 [v1, .func (.func f_1g) #[] f_1k.toArray] W0 (fun v w' => v = .int .i64 y) := by
  refine enter (c := _) Tryd.func82 rfl T 19 Tryd.ntmps82 hT rfl fun a hS => ?_
  replace hS := hS.fact f_1P (Fact.dn _ hPf_1)
  replace hS := hS.fact LvF (LvP.dn hLv)
  replace hS := hS.fact (SlF R_RecordD v1 s_0) (SlR.dn hv1)
  unfold indexf_Record at hM
  refine wp_seq_k fun K17 hK17 => ?_
  refine r_list ?_
  refine wl rfl (ky (v := .int .i64 0) hS (y_assign hS rfl) rfl rfl fun a hS => ?_)
  refine wpList_nil ?_
  try simp only [Exit.then, Exit.inBlock, ↓reduceIte, Nat.reduceEqDiff]
  refine hK17 _ _ ?_
  refine seq_j (J := fun a w => St W0 No T 19 [] [] [LvF, f_1P] a w ∧ indexf_Record_j1 = some y) ?_ ?_
  · skip
    refine wp_seq_k fun K26 hK26 => ?_
    refine r_list ?_
    refine wl rfl (ky (v := v1) hS (y_move hS rfl) rfl rfl fun a hS => ?_)
    refine wl rfl (ky (v := .int .i64 (s_0.length : Int)) hS (y_len (R := R_RecordD) (xs := s_0) hS sl51 rfl 0 rfl) rfl rfl fun a hS => ?_)
    refine wl rfl (ky (v := .int .i64 0) hS (y_move hS rfl) rfl rfl fun a hS => ?_)
    refine wpList_nil ?_
    try simp only [Exit.then, Exit.inBlock, ↓reduceIte, Nat.reduceEqDiff]
    refine hK26 _ _ ?_
    refine wp_block ?_
    obtain ⟨r1, hl1, hMo1⟩ := bd hM
    refine wp_lp (fun s : Int × Int => indexf_Record_l2 s_0 f_1 s.1 s.2) (fun s a w => ∃ (g50 : Int) (g51 : Int), (g50, g51) = s ∧ St W0 No T 19 [(0, v1), (1, .func (.func f_1g) #[] f_1k.toArray), (7, .int .i64 g50), (8, .int .i64 g51)] [] [SlF R_RecordD v1 s_0, LvF, f_1P] a w) hl1 ⟨(s_0.length : Int), 0, rfl, (hS.meet [] (by decide) ⟨rfl, rfl, rfl, rfl, trivial⟩ trivial ⟨⟨0, rfl⟩, ⟨1, rfl⟩, ⟨2, rfl⟩, trivial⟩)⟩ ?_
    rintro s a w f1 ⟨g50, g51, rfl, hS⟩ hM hf1
    have hM : indexf_Record_l2 s_0 f_1 g50 g51 = some f1 := hM
    unfold indexf_Record_l2 at hM
    refine wp_seq_k fun K33 hK33 => ?_
    refine r_list ?_
    refine wl rfl (ky (v := .bool (decide ((g51 : Int) < g50))) hS (y_int hS rfl rfl rfl) rfl rfl fun a hS => ?_)
    refine wpList_nil ?_
    try simp only [Exit.then, Exit.inBlock, ↓reduceIte, Nat.reduceEqDiff]
    refine hK33 _ _ ?_
    refine wp_seq_k fun K34 hK34 => ?_
    rcases bool2 (decide ((g51 : Int) < g50)) with hb65 | hb65
    · replace hM := ct hb65 hM
      refine c_t hS rfl hb65 ?_
      refine wp_skip ?_
      try simp only [Exit.then, Exit.inBlock, ↓reduceIte, Nat.reduceEqDiff]
      refine hK34 _ _ ?_
      refine wp_seq_k fun K35 hK35 => ?_
      refine wp_block ?_
      refine wp_seq_k fun K36 hK36 => ?_
      refine r_list ?_
      refine wl rfl (ky (v := .int .i64 g51) hS (y_move hS rfl) rfl rfl fun a hS => ?_)
      refine wl rfl (ky (v := .int .i64 g51) hS (y_assign hS rfl) rfl rfl fun a hS => ?_)
      refine wpList_nil ?_
      try simp only [Exit.then, Exit.inBlock, ↓reduceIte, Nat.reduceEqDiff]
      refine hK36 _ _ ?_
      refine wp_seq_k fun K37 hK37 => ?_
      refine r_list ?_
      refine wl rfl (ky (v := .func (.func f_1g) #[] f_1k.toArray) hS (y_move hS rfl) rfl rfl fun a hS => ?_)
      refine wl rfl (ky (v := v1) hS (y_move hS rfl) rfl rfl fun a hS => ?_)
      refine wl rfl (ky (v := .int .i64 g51) hS (y_move hS rfl) rfl rfl fun a hS => ?_)
      obtain ⟨e66, he66, hM⟩ := bd hM
      refine wl rfl (k_index (R := R_RecordD) hS sl51 ty54 rfl rfl 0 rfl he66 rfl fun b68 o69 cs71 hr70 a hS => ?_)
      obtain ⟨v67, rfl, hv67⟩ := hr70
      replace hS := hS.fact (SlF R_KeyD v67 e66.Reads) hv67
      refine wl rfl (ky (v := .agg #[.int .i64 e66.Key.Kind, .string e66.Key.Text, .string e66.Value, v67, .int .i64 e66.Changed, .int .i64 e66.Verified, .int .i64 e66.Cost, .bool e66.Dirty]) hS (y_loadc (k := 0) hS ty54 1 rfl rfl (fun _ h => h.elim) (us := [.int .i64 e66.Key.Kind, .string e66.Key.Text, .string e66.Value, v67, .int .i64 e66.Changed, .int .i64 e66.Verified, .int .i64 e66.Cost, .bool e66.Dirty]) rfl rfl (fun h => by cases h)) rfl rfl fun a hS => ?_)
      obtain ⟨u73, hu73, hM⟩ := bd hM
      refine wl rfl (k_callv (cap := f_1k) hS rfl hcf_1 rfl rfl (hf_1 _ _ hS.dlt (hS.get 3 rfl) (hS.get 4 rfl) e66 _ (hS.get 0 rfl) _ hu73) fun _ w hR a hk hA => ?_)
      have he := Eq.symm hR
      subst he
      have hS := hA [] (fun r hr => by cases hr) List.Pairwise.nil
      refine wpList_nil ?_
      try simp only [Exit.then, Exit.inBlock, ↓reduceIte, Nat.reduceEqDiff]
      refine hK37 _ _ ?_
      rcases bool2 (u73) with hb75 | hb75
      · replace hM := ct hb75 hM
        refine c_t hS rfl hb75 ?_
        refine wp_seq_k fun K38 hK38 => ?_
        refine r_list ?_
        refine wl rfl (ky (v := .int .i64 g51) hS (y_move hS rfl) rfl rfl fun a hS => ?_)
        refine wl rfl (ky (v := .int .i64 g51) hS (y_assign hS rfl) rfl rfl fun a hS => ?_)
        refine wpList_nil ?_
        try simp only [Exit.then, Exit.inBlock, ↓reduceIte, Nat.reduceEqDiff]
        refine hK38 _ _ ?_
        refine wp_ret ?_
        injection hM with hM
        subst hM
        have hr := hf1 _ rfl
        subst hr
        replace hMo1 := el_out hMo1
        have hM := hMo1
        injection hM with hM
        subst hM
        try simp only [Exit.then, Exit.inBlock, ↓reduceIte, Nat.reduceEqDiff]
        refine ret_ok hS Tryd.results82 (res_tmp hS rfl res_nil) ?_
        exact rfl
      · replace hM := cf hb75 hM
        refine c_f hS rfl hb75 ?_
        refine wp_skip ?_
        try simp only [Exit.then, Exit.inBlock, ↓reduceIte, Nat.reduceEqDiff]
        refine hK35 _ _ ?_
        refine r_list ?_
        refine wl rfl (ky (v := .int .i64 (IntKind.i64.wrap (g51 + 1))) hS (y_int hS rfl rfl rfl) rfl rfl fun a hS => ?_)
        refine wl rfl (ky (v := .int .i64 (IntKind.i64.wrap (g51 + 1))) hS (y_move hS rfl) rfl rfl fun a hS => ?_)
        refine wpList_nil ?_
        try simp only [Exit.then, Exit.inBlock, ↓reduceIte, Nat.reduceEqDiff]
        exact ⟨(g50, IntKind.i64.wrap (g51 + 1)), (Option.some.inj hM).symm, g50, (IntKind.i64.wrap (g51 + 1)), rfl, (hS.meet [] (by decide) ⟨rfl, rfl, rfl, rfl, trivial⟩ trivial ⟨⟨2, rfl⟩, ⟨3, rfl⟩, ⟨4, rfl⟩, trivial⟩)⟩
    · replace hM := cf hb65 hM
      refine c_f hS rfl hb65 ?_
      refine wp_exit ?_
      try simp only [Exit.then, Exit.inBlock, ↓reduceIte, Nat.reduceEqDiff]
      injection hM with hM
      subst hM
      have hr := hf1 _ rfl
      subst hr
      replace hMo1 := el_go hMo1
      have hM : indexf_Record_j1 = some y := hMo1
      exact ⟨(hS.meet [] (by decide) trivial trivial ⟨⟨1, rfl⟩, ⟨2, rfl⟩, trivial⟩), hM⟩
  · rintro a w ⟨hS, hM⟩
    unfold indexf_Record_j1 at hM
    refine wp_seq_k fun K25 hK25 => ?_
    refine r_list ?_
    refine wl rfl (ky (v := .int .i64 (-1)) hS (y_assign hS rfl) rfl rfl fun a hS => ?_)
    refine wpList_nil ?_
    try simp only [Exit.then, Exit.inBlock, ↓reduceIte, Nat.reduceEqDiff]
    refine hK25 _ _ ?_
    refine wp_ret ?_
    injection hM with hM
    subst hM
    try simp only [Exit.then, Exit.inBlock, ↓reduceIte, Nat.reduceEqDiff]
    refine ret_ok hS Tryd.results82 (res_tmp hS rfl res_nil) ?_
    exact rfl

noncomputable def deletef_j1 (s383 : (List RecordD)) (i385 : Int) : Option (List RecordD) := (subI s383 i385 s383.length).bind fun l386 => (subI (List.take (Int.toNat i385) s383 ++ List.replicate ((Int.toNat (s383.length : Int)) - (Int.toNat i385)) (RecordD.mk (KeyD.mk (0 : Int) (ByteArray.mk #[])) (ByteArray.mk #[]) [] (0 : Int) (0 : Int) (0 : Int) false) ++ List.drop (Int.toNat (s383.length : Int)) s383) 0 i385).bind fun l392 => some (l392)
noncomputable def deletef_j2 (j457 : Int) (s542 : (List RecordD)) (i544 : Int) : Option (Fl ((List RecordD) × Int × Int) ((List RecordD) × Int)) := some (.go (s542, i544, IntKind.i64.wrap (j457 + 1)))
noncomputable def deletef_l3 (del_ : RecordD → Option Bool) (s454 : (List RecordD)) (i456 : Int) (j457 : Int) : Option (Fl ((List RecordD) × Int × Int) ((List RecordD) × Int)) := cond (decide ((j457 : Int) < (s454.length : Int))) ((getI s454 j457).bind fun e545 => (del_ e545).bind fun u557 => cond (!(u557)) ((getI s454 i456).bind fun e560 => deletef_j2 j457 (s454.set (Int.toNat i456) e545) (IntKind.i64.wrap (i456 + 1))) (deletef_j2 j457 s454 i456)) (some (.out (s454, i456)))
noncomputable def deletef (del_ : RecordD → Option Bool) (s_0 : (List RecordD)) : Option (List RecordD) := (indexf_Record del_ s_0).bind fun u260 => cond ((u260 : Int) == (-1)) (some (s_0)) ((loop (fun s : (List RecordD) × Int × Int => deletef_l3 del_ s.1 s.2.1 s.2.2) (s_0, u260, IntKind.i64.wrap (u260 + 1))).bind fun r => deletef_j1 r.1 r.2)
set_option maxRecDepth 100000 in
set_option maxHeartbeats 4000000 in
theorem deletef_c (T : Nat → Prop) (W0 : World) (hT : ∀ k, T k → k < W0.heap.size) (del_g : Nat) (hcdel_ : callI Tryd.prog del_g = true) (del_k : List Value) (del_P : Fact) (del_ : RecordD → Option Bool) (hdel_ : ∀ (T : Nat → Prop) (W0 : World) (hT : ∀ k, T k → k < W0.heap.size) (hLv : LvP T W0) (hP : del_P.p T W0) (x0 : RecordD) (vq1 : Value) (hvq1 : SlR R_KeyD T W0 vq1 x0.Reads) (y : Bool) (hM : del_ x0 = some y), Rets Tryd.prog No del_g ([.agg #[.int .i64 x0.Key.Kind, .string x0.Key.Text, .string x0.Value, vq1, .int .i64 x0.Changed, .int .i64 x0.Verified, .int .i64 x0.Cost, .bool x0.Dirty]] ++ del_k) W0 (fun v w' => v = .bool y)) (s_0 : (List RecordD)) (v1 : Value) (cl2 : List Value) (hD : DOk T W0 [.own v1 54 R_RecordD.size cl2]) (hv1 : RowsOk R_RecordD (dT T [.own v1 54 R_RecordD.size cl2]) W0 cl2 s_0) (hLv : LvP (dT T [.own v1 54 R_RecordD.size cl2]) W0) (hPdel_ : del_P.p (dT T [.own v1 54 R_RecordD.size cl2]) W0) (y : (List RecordD)) (hM : deletef del_ s_0 = some y) : Rets Tryd.prog (MD [.own v1 54 R_RecordD.size cl2]) 80 [v1, .func (.func del_g) #[] del_k.toArray] W0 (fun v w' => ∃ (v3 : Value) (cl4 : List Value), v = v3 ∧ RowsOk R_RecordD (dT T [.own v3 54 R_RecordD.size cl4]) w' cl4 y ∧ DNew W0 w' [.own v1 54 R_RecordD.size cl2] [.own v3 54 R_RecordD.size cl4]) := by
  refine enterD (c := _) Tryd.func80 rfl T 42 Tryd.ntmps80 hT rfl hD fun a hS => ?_
  replace hS := hS.fact del_P hPdel_
  replace hS := hS.fact LvF hLv
  replace hS := hS.fact (RowsF R_RecordD cl2 s_0) hv1
  unfold deletef at hM
  refine wp_seq_k fun K42 hK42 => ?_
  refine r_list ?_
  refine wl rfl (ky (v := .slice none 0 0) hS (y_assign hS rfl) rfl rfl fun a hS => ?_)
  refine wpList_nil ?_
  try simp only [Exit.then, Exit.inBlock, ↓reduceIte, Nat.reduceEqDiff]
  refine hK42 _ _ ?_
  refine wp_seq_k fun K43 hK43 => ?_
  refine r_list ?_
  refine wl rfl (ky (v := v1) hS (y_move hS rfl) rfl rfl fun a hS => ?_)
  refine wl rfl (ky (v := .func (.func del_g) #[] del_k.toArray) hS (y_move hS rfl) rfl rfl fun a hS => ?_)
  have hL := hS
  replace hL := hL.freeze (R := R_RecordD) 0 rfl 0 rfl
  obtain ⟨u260, hu260, hM⟩ := bd hM
  refine wl rfl (k_call hS ci82 rfl rfl (indexf_Record_c _ _ hL.dlt (hL.get 2 rfl) del_g hcdel_ del_k del_P del_ hdel_ (hL.get 3 rfl) s_0 _ (hL.get 0 rfl) _ hu260) fun _ w hR a hk hA => ?_)
  have he := Eq.symm hR
  subst he
  have hS := hA [] (fun r hr => by cases hr) List.Pairwise.nil
  refine wl rfl (ky (v := .int .i64 u260) hS (y_assign hS rfl) rfl rfl fun a hS => ?_)
  refine wpList_nil ?_
  try simp only [Exit.then, Exit.inBlock, ↓reduceIte, Nat.reduceEqDiff]
  refine hK43 _ _ ?_
  refine wp_seq_k fun K44 hK44 => ?_
  refine wp_seq_k fun K45 hK45 => ?_
  refine r_list ?_
  refine wl rfl (ky (v := .int .i64 u260) hS (y_move hS rfl) rfl rfl fun a hS => ?_)
  refine wl rfl (ky (v := .bool ((u260 : Int) == (-1))) hS (y_int hS rfl rfl rfl) rfl rfl fun a hS => ?_)
  refine wpList_nil ?_
  try simp only [Exit.then, Exit.inBlock, ↓reduceIte, Nat.reduceEqDiff]
  refine hK45 _ _ ?_
  rcases bool2 ((u260 : Int) == (-1)) with hb262 | hb262
  · replace hM := ct hb262 hM
    refine c_t hS rfl hb262 ?_
    refine wp_seq_k fun K46 hK46 => ?_
    refine r_list ?_
    refine wl rfl (ky (v := v1) hS (y_move hS rfl) rfl rfl fun a hS => ?_)
    refine wl rfl (ky (v := v1) hS (y_assign hS rfl) rfl rfl fun a hS => ?_)
    refine wpList_nil ?_
    try simp only [Exit.then, Exit.inBlock, ↓reduceIte, Nat.reduceEqDiff]
    refine hK46 _ _ ?_
    refine wp_ret ?_
    injection hM with hM
    subst hM
    try simp only [Exit.then, Exit.inBlock, ↓reduceIte, Nat.reduceEqDiff]
    refine ret_ok hS Tryd.results80 (res_tmp hS rfl res_nil) ?_
    have hZ := hS.meet (G' := []) (D' := [.own v1 54 R_RecordD.size cl2]) (F' := [RowsF R_RecordD cl2 s_0]) [0] (by decide) trivial ⟨rfl, trivial⟩ ⟨⟨0, rfl⟩, trivial⟩
    exact ⟨v1, cl2, rfl, (hZ.get 0 rfl), hZ.dnew⟩
  · replace hM := cf hb262 hM
    refine c_f hS rfl hb262 ?_
    refine wp_skip ?_
    try simp only [Exit.then, Exit.inBlock, ↓reduceIte, Nat.reduceEqDiff]
    refine hK44 _ _ ?_
    refine seq_j (J := fun a w => ∃ (s383 : (List RecordD)) (i385 : Int) (cl384 : (List Value)), St W0 (MD [.own v1 54 R_RecordD.size cl2]) T 42 [(0, v1), (5, .int .i64 i385)] [.own v1 54 R_RecordD.size cl384] [RowsF R_RecordD cl384 s383, LvF, del_P] a w ∧ deletef_j1 s383 i385 = some y) ?_ ?_
    · skip
      refine wp_seq_k fun K66 hK66 => ?_
      refine r_list ?_
      refine wl rfl (ky (v := .int .i64 u260) hS (y_move hS rfl) rfl rfl fun a hS => ?_)
      refine wl rfl (ky (v := .int .i64 (IntKind.i64.wrap (u260 + 1))) hS (y_int hS rfl rfl rfl) rfl rfl fun a hS => ?_)
      refine wl rfl (ky (v := .int .i64 (IntKind.i64.wrap (u260 + 1))) hS (y_assign hS rfl) rfl rfl fun a hS => ?_)
      refine wpList_nil ?_
      try simp only [Exit.then, Exit.inBlock, ↓reduceIte, Nat.reduceEqDiff]
      refine hK66 _ _ ?_
      refine wp_block ?_
      obtain ⟨r1, hl1, hMo1⟩ := bd hM
      refine wp_lp (fun s : (List RecordD) × Int × Int => deletef_l3 del_ s.1 s.2.1 s.2.2) (fun s a w => ∃ (s454 : (List RecordD)) (i456 : Int) (j457 : Int) (cl455 : (List Value)), (s454, i456, j457) = s ∧ St W0 (MD [.own v1 54 R_RecordD.size cl2]) T 42 [(0, v1), (1, .func (.func del_g) #[] del_k.toArray), (5, .int .i64 i456), (6, .int .i64 j457)] [.own v1 54 R_RecordD.size cl455] [RowsF R_RecordD cl455 s454, LvF, del_P] a w) hl1 ⟨s_0, u260, (IntKind.i64.wrap (u260 + 1)), cl2, rfl, (hS.meet [0] (by decide) ⟨rfl, rfl, rfl, rfl, trivial⟩ ⟨rfl, trivial⟩ ⟨⟨0, rfl⟩, ⟨1, rfl⟩, ⟨2, rfl⟩, trivial⟩)⟩ ?_
      rintro s a w f1 ⟨s454, i456, j457, cl455, rfl, hS⟩ hM hf1
      have hM : deletef_l3 del_ s454 i456 j457 = some f1 := hM
      unfold deletef_l3 at hM
      refine wp_seq_k fun K83 hK83 => ?_
      refine wp_seq_k fun K84 hK84 => ?_
      refine r_list ?_
      refine wl rfl (ky (v := .int .i64 j457) hS (y_move hS rfl) rfl rfl fun a hS => ?_)
      refine wl rfl (ky (v := v1) hS (y_move hS rfl) rfl rfl fun a hS => ?_)
      refine wl rfl (ky (v := .int .i64 (s454.length : Int)) hS (y_leno (R := R_RecordD) (xs := s454) hS sl51 rfl 0 rfl 0 rfl) rfl rfl fun a hS => ?_)
      refine wl rfl (ky (v := .bool (decide ((j457 : Int) < (s454.length : Int)))) hS (y_int hS rfl rfl rfl) rfl rfl fun a hS => ?_)
      refine wpList_nil ?_
      try simp only [Exit.then, Exit.inBlock, ↓reduceIte, Nat.reduceEqDiff]
      refine hK84 _ _ ?_
      rcases bool2 (decide ((j457 : Int) < (s454.length : Int))) with hb516 | hb516
      · replace hM := ct hb516 hM
        refine c_t hS rfl hb516 ?_
        refine wp_skip ?_
        try simp only [Exit.then, Exit.inBlock, ↓reduceIte, Nat.reduceEqDiff]
        refine hK83 _ _ ?_
        refine seq_j (J := fun a w => ∃ (s542 : (List RecordD)) (i544 : Int) (cl543 : (List Value)), St W0 (MD [.own v1 54 R_RecordD.size cl2]) T 42 [(0, v1), (1, .func (.func del_g) #[] del_k.toArray), (5, .int .i64 i544), (6, .int .i64 j457)] [.own v1 54 R_RecordD.size cl543] [RowsF R_RecordD cl543 s542, LvF, del_P] a w ∧ deletef_j2 j457 s542 i544 = some f1) ?_ ?_
        · skip
          refine wp_block ?_
          refine wp_seq_k fun K88 hK88 => ?_
          refine r_list ?_
          refine wl rfl (ky (v := v1) hS (y_move hS rfl) rfl rfl fun a hS => ?_)
          refine wl rfl (ky (v := .int .i64 j457) hS (y_move hS rfl) rfl rfl fun a hS => ?_)
          obtain ⟨e545, he545, hM⟩ := bd hM
          refine wl rfl (k_indexo (R := R_RecordD) hS sl51 ty54 rfl rfl 0 rfl 0 rfl he545 rfl fun b547 o548 p553 cs550 hr549 hO551 hC552 a hS => ?_)
          obtain ⟨v546, rfl, hv546⟩ := hr549
          replace hS := hS.fact (SlF R_KeyD v546 e545.Reads) hv546
          refine wl rfl (ky (v := .agg #[.int .i64 e545.Key.Kind, .string e545.Key.Text, .string e545.Value, v546, .int .i64 e545.Changed, .int .i64 e545.Verified, .int .i64 e545.Cost, .bool e545.Dirty]) hS (y_loado (k := 0) hS ty54 0 rfl hO551 hC552 rfl id (us := [.int .i64 e545.Key.Kind, .string e545.Key.Text, .string e545.Value, v546, .int .i64 e545.Changed, .int .i64 e545.Verified, .int .i64 e545.Cost, .bool e545.Dirty]) rfl rfl (fun h => by cases h)) rfl rfl fun a hS => ?_)
          refine wl rfl (k_alloc hS ze54 rfl fun b554 hnb556 a w hk hS => ?_)
          refine wl rfl (k_store hS rfl rfl (us := [.int .i64 e545.Key.Kind, .string e545.Key.Text, .string e545.Value, v546, .int .i64 e545.Changed, .int .i64 e545.Verified, .int .i64 e545.Cost, .bool e545.Dirty]) rfl ty54 0 rfl rfl rfl (oc rfl (oc rfl (oc rfl (oc (SlR.one ((hS.get 0 rfl) : SlR R_KeyD _ _ _ _)) (oc rfl (oc rfl (oc rfl (oc rfl on)))))))) fun w hk hS => ?_)
          refine wpList_nil ?_
          try simp only [Exit.then, Exit.inBlock, ↓reduceIte, Nat.reduceEqDiff]
          refine hK88 _ _ ?_
          refine wp_seq_k fun K89 hK89 => ?_
          refine r_list ?_
          refine wl rfl (ky (v := .func (.func del_g) #[] del_k.toArray) hS (y_move hS rfl) rfl rfl fun a hS => ?_)
          refine wl rfl (ky (v := .agg #[.int .i64 e545.Key.Kind, .string e545.Key.Text, .string e545.Value, v546, .int .i64 e545.Changed, .int .i64 e545.Verified, .int .i64 e545.Cost, .bool e545.Dirty]) hS (y_load hS rfl ty54 0 rfl id (us := [.int .i64 e545.Key.Kind, .string e545.Key.Text, .string e545.Value, v546, .int .i64 e545.Changed, .int .i64 e545.Verified, .int .i64 e545.Cost, .bool e545.Dirty]) rfl rfl (fun h => by cases h)) rfl rfl fun a hS => ?_)
          obtain ⟨u557, hu557, hM⟩ := bd hM
          refine wl rfl (k_callv (cap := del_k) hS rfl hcdel_ rfl rfl (hdel_ _ _ hS.dlt (hS.get 2 rfl) (hS.get 3 rfl) e545 _ (hS.get 0 rfl) _ hu557) fun _ w hR a hk hA => ?_)
          have he := Eq.symm hR
          subst he
          have hS := hA [] (fun r hr => by cases hr) List.Pairwise.nil
          refine wl rfl (ky (v := .bool (!(u557))) hS (y_not hS rfl) rfl rfl fun a hS => ?_)
          refine wpList_nil ?_
          try simp only [Exit.then, Exit.inBlock, ↓reduceIte, Nat.reduceEqDiff]
          refine hK89 _ _ ?_
          rcases bool2 (!(u557)) with hb559 | hb559
          · replace hM := ct hb559 hM
            refine c_t hS rfl hb559 ?_
            refine wp_seq_k fun K90 hK90 => ?_
            refine r_list ?_
            refine wl rfl (ky (v := v1) hS (y_move hS rfl) rfl rfl fun a hS => ?_)
            refine wl rfl (ky (v := .int .i64 i456) hS (y_move hS rfl) rfl rfl fun a hS => ?_)
            refine wl rfl (ky (v := .agg #[.int .i64 e545.Key.Kind, .string e545.Key.Text, .string e545.Value, v546, .int .i64 e545.Changed, .int .i64 e545.Verified, .int .i64 e545.Cost, .bool e545.Dirty]) hS (y_load hS rfl ty54 0 rfl id (us := [.int .i64 e545.Key.Kind, .string e545.Key.Text, .string e545.Value, v546, .int .i64 e545.Changed, .int .i64 e545.Verified, .int .i64 e545.Cost, .bool e545.Dirty]) rfl rfl (fun h => by cases h)) rfl rfl fun a hS => ?_)
            obtain ⟨e560, he560, hM⟩ := bd hM
            refine wl rfl (k_indexo (R := R_RecordD) hS sl51 ty54 rfl rfl 1 rfl 1 rfl he560 rfl fun b562 o563 p568 cs565 hr564 hO566 hC567 a hS => ?_)
            obtain ⟨v561, rfl, hv561⟩ := hr564
            replace hS := hS.fact (SlF R_KeyD v561 e560.Reads) hv561
            refine wl rfl (k_storeo (R := R_RecordD) (k := 0) (cs := [.int .i64 e560.Key.Kind, .string e560.Key.Text, .string e560.Value, v561, .int .i64 e560.Changed, .int .i64 e560.Verified, .int .i64 e560.Cost, .bool e560.Dirty]) (us := [.int .i64 e545.Key.Kind, .string e545.Key.Text, .string e545.Value, v546, .int .i64 e545.Changed, .int .i64 e545.Verified, .int .i64 e545.Cost, .bool e545.Dirty]) (x' := e545) hS rfl rfl rfl ty54 1 rfl 2 rfl hO566 hC567 he560 (⟨_, rfl, (hS.get 0 rfl)⟩) rfl rfl (⟨_, rfl, (hS.get 1 rfl)⟩) fun cl569 w hk hS => ?_)
            refine wpList_nil ?_
            try simp only [Exit.then, Exit.inBlock, ↓reduceIte, Nat.reduceEqDiff]
            refine hK90 _ _ ?_
            refine r_list ?_
            refine wl rfl (ky (v := .int .i64 i456) hS (y_move hS rfl) rfl rfl fun a hS => ?_)
            refine wl rfl (ky (v := .int .i64 (IntKind.i64.wrap (i456 + 1))) hS (y_int hS rfl rfl rfl) rfl rfl fun a hS => ?_)
            refine wl rfl (ky (v := .int .i64 (IntKind.i64.wrap (i456 + 1))) hS (y_assign hS rfl) rfl rfl fun a hS => ?_)
            refine wpList_nil ?_
            try simp only [Exit.then, Exit.inBlock, ↓reduceIte, Nat.reduceEqDiff]
            exact ⟨(s454.set (Int.toNat i456) e545), (IntKind.i64.wrap (i456 + 1)), cl569, (hS.meet [1] (by decide) ⟨rfl, rfl, rfl, rfl, trivial⟩ ⟨rfl, trivial⟩ ⟨⟨0, rfl⟩, ⟨4, rfl⟩, ⟨5, rfl⟩, trivial⟩), hM⟩
          · replace hM := cf hb559 hM
            refine c_f hS rfl hb559 ?_
            refine wp_skip ?_
            try simp only [Exit.then, Exit.inBlock, ↓reduceIte, Nat.reduceEqDiff]
            exact ⟨s454, i456, cl455, (hS.meet [1] (by decide) ⟨rfl, rfl, rfl, rfl, trivial⟩ ⟨rfl, trivial⟩ ⟨⟨1, rfl⟩, ⟨2, rfl⟩, ⟨3, rfl⟩, trivial⟩), hM⟩
        · rintro a w ⟨s542, i544, cl543, hS, hM⟩
          unfold deletef_j2 at hM
          refine r_list ?_
          refine wl rfl (ky (v := .int .i64 j457) hS (y_move hS rfl) rfl rfl fun a hS => ?_)
          refine wl rfl (ky (v := .int .i64 (IntKind.i64.wrap (j457 + 1))) hS (y_int hS rfl rfl rfl) rfl rfl fun a hS => ?_)
          refine wl rfl (ky (v := .int .i64 (IntKind.i64.wrap (j457 + 1))) hS (y_assign hS rfl) rfl rfl fun a hS => ?_)
          refine wpList_nil ?_
          try simp only [Exit.then, Exit.inBlock, ↓reduceIte, Nat.reduceEqDiff]
          exact ⟨(s542, i544, IntKind.i64.wrap (j457 + 1)), (Option.some.inj hM).symm, s542, i544, (IntKind.i64.wrap (j457 + 1)), cl543, rfl, (hS.meet [0] (by decide) ⟨rfl, rfl, rfl, rfl, trivial⟩ ⟨rfl, trivial⟩ ⟨⟨0, rfl⟩, ⟨1, rfl⟩, ⟨2, rfl⟩, trivial⟩)⟩
      · replace hM := cf hb516 hM
        refine c_f hS rfl hb516 ?_
        refine wp_exit ?_
        try simp only [Exit.then, Exit.inBlock, ↓reduceIte, Nat.reduceEqDiff]
        injection hM with hM
        subst hM
        have hr := hf1 _ rfl
        subst hr
        have hM : deletef_j1 s454 i456 = some y := hMo1
        exact ⟨s454, i456, cl455, (hS.meet [0] (by decide) ⟨rfl, rfl, trivial⟩ ⟨rfl, trivial⟩ ⟨⟨0, rfl⟩, ⟨1, rfl⟩, ⟨2, rfl⟩, trivial⟩), hM⟩
    · rintro a w ⟨s383, i385, cl384, hS, hM⟩
      unfold deletef_j1 at hM
      refine wp_seq_k fun K64 hK64 => ?_
      refine r_list ?_
      refine wl rfl (ky (v := v1) hS (y_move hS rfl) rfl rfl fun a hS => ?_)
      refine wl rfl (ky (v := .int .i64 i385) hS (y_move hS rfl) rfl rfl fun a hS => ?_)
      obtain ⟨l386, hl386, hM⟩ := bd hM
      obtain ⟨v387, hv388, hw390, hy389⟩ := d_win (R := R_RecordD) hS sl51 ty54 0 rfl 0 rfl hl386
      replace hS := hS.fact (WinF 8 v1 v387 (Int.toNat i385) (Int.toNat (s383.length : Int)) s383.length) hw390
      refine wl rfl (ky (v := v387) hS (hy389 (k2 := .i64) rfl (.inl ⟨_, rfl, rfl⟩) (.inr ⟨rfl, rfl⟩)) rfl rfl fun a hS => ?_)
      refine wl rfl (k_clear (R := R_RecordD) (z0 := (RecordD.mk (KeyD.mk (0 : Int) (ByteArray.mk #[])) (ByteArray.mk #[]) [] (0 : Int) (0 : Int) (0 : Int) false)) (xs := s383) hS el51 ze54 rfl 0 rfl 1 rfl (hS.get 0 rfl) (⟨_, rfl, SlR.nil_ _ _ _⟩) fun cl391 w hk hS => ?_)
      refine wpList_nil ?_
      try simp only [Exit.then, Exit.inBlock, ↓reduceIte, Nat.reduceEqDiff]
      refine hK64 _ _ ?_
      refine wp_seq_k fun K65 hK65 => ?_
      refine r_list ?_
      refine wl rfl (ky (v := v1) hS (y_move hS rfl) rfl rfl fun a hS => ?_)
      refine wl rfl (ky (v := .int .i64 i385) hS (y_move hS rfl) rfl rfl fun a hS => ?_)
      obtain ⟨l392, hl392, hM⟩ := bd hM
      refine wl rfl (k_subo (R := R_RecordD) (k1 := .i64) hS sl51 ty54 rfl (.inr ⟨rfl, rfl⟩) (.inl ⟨_, rfl, rfl⟩) 0 rfl 0 rfl hl392 rfl fun v393 cl394 a hS => ?_)
      refine wl rfl (ky (v := v393) hS (y_assign hS rfl) rfl rfl fun a hS => ?_)
      refine wpList_nil ?_
      try simp only [Exit.then, Exit.inBlock, ↓reduceIte, Nat.reduceEqDiff]
      refine hK65 _ _ ?_
      refine wp_ret ?_
      injection hM with hM
      subst hM
      try simp only [Exit.then, Exit.inBlock, ↓reduceIte, Nat.reduceEqDiff]
      refine ret_ok hS Tryd.results80 (res_tmp hS rfl res_nil) ?_
      have hZ := hS.meet (G' := []) (D' := [.own v393 54 R_RecordD.size cl394]) (F' := [RowsF R_RecordD cl394 l392]) [0] (by decide) trivial ⟨rfl, trivial⟩ ⟨⟨0, rfl⟩, trivial⟩
      exact ⟨v393, cl394, rfl, (hZ.get 0 rfl), hZ.dnew⟩

noncomputable def record_Drop_1 (r_0 : RecordD) (p_1 : KeyD) : Option Bool := some ((r_0.Key.Kind : Int) == p_1.Kind && r_0.Key.Text.toList == p_1.Text.toList)
set_option maxRecDepth 100000 in
set_option maxHeartbeats 4000000 in
theorem record_Drop_1_c (T : Nat → Prop) (W0 : World) (hT : ∀ k, T k → k < W0.heap.size) (r_0 : RecordD) (p_1 : KeyD) (v1 : Value) (b2 : Nat) (hv1 : SlR R_KeyD T W0 v1 r_0.Reads) (hCb2 : (CellsF b2 0 [.int .i64 p_1.Kind, .string p_1.Text]).p T W0) (y : Bool) (hM : record_Drop_1 r_0 p_1 = some y) : Rets Tryd.prog No 81 [.agg #[.int .i64 r_0.Key.Kind, .string r_0.Key.Text, .string r_0.Value, v1, .int .i64 r_0.Changed, .int .i64 r_0.Verified, .int .i64 r_0.Cost, .bool r_0.Dirty], .pointer (some ⟨b2, 0, none⟩)] W0 (fun v w' => v = .bool y) := by
  refine enter (c := _) Tryd.func81 rfl T 8 Tryd.ntmps81 hT rfl fun a hS => ?_
  replace hS := hS.fact (CellsF b2 0 [.int .i64 p_1.Kind, .string p_1.Text]) (Fact.dn _ hCb2)
  replace hS := hS.fact (SlF R_KeyD v1 r_0.Reads) (SlR.dn hv1)
  unfold record_Drop_1 at hM
  refine wp_seq_k fun K3 hK3 => ?_
  refine r_list ?_
  refine wl rfl (k_box hS rfl (cs := [.int .i64 r_0.Key.Kind, .string r_0.Key.Text, .string r_0.Value, v1, .int .i64 r_0.Changed, .int .i64 r_0.Verified, .int .i64 r_0.Cost, .bool r_0.Dirty]) rfl rfl fun b4 hnb6 a w hk hS => ?_)
  refine wl rfl (ky (v := .bool false) hS (y_assign hS rfl) rfl rfl fun a hS => ?_)
  refine wpList_nil ?_
  try simp only [Exit.then, Exit.inBlock, ↓reduceIte, Nat.reduceEqDiff]
  refine hK3 _ _ ?_
  refine wp_seq_k fun K4 hK4 => ?_
  refine r_list ?_
  refine wl rfl (ky (v := .pointer (some ⟨b4, 0 + 0, none⟩)) hS (y_fld hS rfl fl54_0) rfl rfl fun a hS => ?_)
  refine wl rfl (ky (v := .agg #[.int .i64 r_0.Key.Kind, .string r_0.Key.Text]) hS (y_load hS rfl ty28 0 rfl id (us := [.int .i64 r_0.Key.Kind, .string r_0.Key.Text]) rfl rfl (fun h => by cases h)) rfl rfl fun a hS => ?_)
  refine wl rfl (ky (v := .agg #[.int .i64 p_1.Kind, .string p_1.Text]) hS (y_loadc (k := 0) hS ty28 1 rfl rfl (fun _ h => h.elim) (us := [.int .i64 p_1.Kind, .string p_1.Text]) rfl rfl (fun h => by cases h)) rfl rfl fun a hS => ?_)
  refine wl rfl (ky (v := .bool ((r_0.Key.Kind : Int) == p_1.Kind && r_0.Key.Text.toList == p_1.Text.toList)) hS (eq28 hS rfl rfl) rfl rfl fun a hS => ?_)
  refine wl rfl (ky (v := .bool ((r_0.Key.Kind : Int) == p_1.Kind && r_0.Key.Text.toList == p_1.Text.toList)) hS (y_assign hS rfl) rfl rfl fun a hS => ?_)
  refine wpList_nil ?_
  try simp only [Exit.then, Exit.inBlock, ↓reduceIte, Nat.reduceEqDiff]
  refine hK4 _ _ ?_
  refine wp_ret ?_
  injection hM with hM
  subst hM
  try simp only [Exit.then, Exit.inBlock, ↓reduceIte, Nat.reduceEqDiff]
  refine ret_ok hS Tryd.results81 (res_tmp hS rfl res_nil) ?_
  exact rfl

noncomputable def record_Drop (l_0 : (List RecordD)) (k_1 : KeyD) : Option (List RecordD) := (record_Copy l_0).bind fun u16 => (deletef (fun x0 => record_Drop_1 x0 k_1) u16).bind fun u20 => some (u20)
set_option maxRecDepth 100000 in
set_option maxHeartbeats 4000000 in
theorem record_Drop_c (T : Nat → Prop) (W0 : World) (hT : ∀ k, T k → k < W0.heap.size) (hLv : LvP T W0) (l_0 : (List RecordD)) (k_1 : KeyD) (v1 : Value) (hv1 : SlR R_RecordD T W0 v1 l_0) (y : (List RecordD)) (hM : record_Drop l_0 k_1 = some y) : Rets Tryd.prog No 40 [v1, .agg #[.int .i64 k_1.Kind, .string k_1.Text]] W0 (fun v w' => ∃ (v2 : Value) (cl3 : List Value), v = v2 ∧ OwnR R_RecordD T W0 w' [.own v2 54 R_RecordD.size cl3] 54 v2 cl3 y) := by
  refine enter (c := _) Tryd.func40 rfl T 9 Tryd.ntmps40 hT rfl fun a hS => ?_
  replace hS := hS.fact LvF (LvP.dn hLv)
  replace hS := hS.fact (SlF R_RecordD v1 l_0) (SlR.dn hv1)
  unfold record_Drop at hM
  refine wp_seq_k fun K3 hK3 => ?_
  refine r_list ?_
  refine wl rfl (k_box hS rfl (cs := [.int .i64 k_1.Kind, .string k_1.Text]) rfl rfl fun b13 hnb15 a w hk hS => ?_)
  refine wl rfl (ky (v := .slice none 0 0) hS (y_assign hS rfl) rfl rfl fun a hS => ?_)
  refine wpList_nil ?_
  try simp only [Exit.then, Exit.inBlock, ↓reduceIte, Nat.reduceEqDiff]
  refine hK3 _ _ ?_
  refine wp_seq_k fun K4 hK4 => ?_
  refine r_list ?_
  refine wl rfl (ky (v := v1) hS (y_move hS rfl) rfl rfl fun a hS => ?_)
  obtain ⟨u16, hu16, hM⟩ := bd hM
  refine wl rfl (k_call hS ci75 rfl rfl (record_Copy_c _ _ hS.dlt l_0 _ (hS.get 0 rfl) _ hu16) fun _ w hR a hk hA => ?_)
  obtain ⟨vz17_2, clz17_3, he, ⟨hOvz17_2, hFvz17_2, hRvz17_2⟩⟩ := hR
  replace he := he.symm
  subst he
  have hS := hA [.own vz17_2 54 R_RecordD.size clz17_3] (adds1 ⟨hOvz17_2, by decide⟩ hFvz17_2) (pw1 _)
  replace hS := hS.fact (RowsF R_RecordD clz17_3 u16) (hRvz17_2.keep (Kt.refl _ _) (dT_dT _))
  replace hS := hS.freezeBox 1 rfl
  refine wl rfl (ky (v := .func (.func 81) #[] #[.pointer (some ⟨b13, 0, none⟩)]) hS (y_mkfunc (vs := [.pointer (some ⟨b13, 0, none⟩)]) hS rfl) rfl rfl fun a hS => ?_)
  obtain ⟨u20, hu20, hM⟩ := bd hM
  replace hS := (show St W0 No T 9 _ ([.own vz17_2 54 R_RecordD.size clz17_3] ++ []) _ _ _ from hS)
  refine wl rfl (k_callD (D0 := [.own vz17_2 54 R_RecordD.size clz17_3]) (Dr := []) hS ci80 rfl rfl (deletef_c _ _ hS.dltD 81 ci81 [.pointer (some ⟨b13, 0, none⟩)] (AndF (CellsF b13 0 [.int .i64 k_1.Kind, .string k_1.Text]) TrueF) (fun x0 => record_Drop_1 x0 k_1) (fun T W0 hT hLv hP x0 v1 hv1 y hM => record_Drop_1_c T W0 hT x0 k_1 v1 b13 hv1 hP.1 y hM) u16 _ _ hS.dok (hS.getD 1 rfl) (hS.getD 3 rfl) ⟨(hS.getD 0 rfl), trivial⟩ _ hu20) fun _ w hR a hk hA => ?_)
  obtain ⟨vz21_3, clz21_4, he, hRvz21_3, hN22⟩ := hR
  replace he := he.symm
  subst he
  have hS := hA _ hN22
  replace hS := (show St W0 No T 9 _ [.own vz21_3 54 R_RecordD.size clz21_4] _ _ _ from hS)
  replace hS := hS.fact (RowsF R_RecordD clz21_4 u20) (hRvz21_3.keep (Kt.refl _ _) (dT_join _))
  refine wl rfl (ky (v := vz21_3) hS (y_assign hS rfl) rfl rfl fun a hS => ?_)
  refine wpList_nil ?_
  try simp only [Exit.then, Exit.inBlock, ↓reduceIte, Nat.reduceEqDiff]
  refine hK4 _ _ ?_
  refine wp_ret ?_
  injection hM with hM
  subst hM
  try simp only [Exit.then, Exit.inBlock, ↓reduceIte, Nat.reduceEqDiff]
  refine ret_ok hS Tryd.results40 (res_tmp hS rfl res_nil) ?_
  exact ⟨vz21_3, clz21_4, rfl, hS.retOwn ⟨.inr (List.mem_of_getElem? (i := 0) rfl), trivial⟩ 0 rfl 0 rfl⟩

noncomputable def record_Find_1 (r_0 : RecordD) (p_1 : KeyD) : Option Bool := some ((r_0.Key.Kind : Int) == p_1.Kind && r_0.Key.Text.toList == p_1.Text.toList)
set_option maxRecDepth 100000 in
set_option maxHeartbeats 4000000 in
theorem record_Find_1_c (T : Nat → Prop) (W0 : World) (hT : ∀ k, T k → k < W0.heap.size) (r_0 : RecordD) (p_1 : KeyD) (v1 : Value) (b2 : Nat) (hv1 : SlR R_KeyD T W0 v1 r_0.Reads) (hCb2 : (CellsF b2 0 [.int .i64 p_1.Kind, .string p_1.Text]).p T W0) (y : Bool) (hM : record_Find_1 r_0 p_1 = some y) : Rets Tryd.prog No 83 [.agg #[.int .i64 r_0.Key.Kind, .string r_0.Key.Text, .string r_0.Value, v1, .int .i64 r_0.Changed, .int .i64 r_0.Verified, .int .i64 r_0.Cost, .bool r_0.Dirty], .pointer (some ⟨b2, 0, none⟩)] W0 (fun v w' => v = .bool y) := by
  refine enter (c := _) Tryd.func83 rfl T 8 Tryd.ntmps83 hT rfl fun a hS => ?_
  replace hS := hS.fact (CellsF b2 0 [.int .i64 p_1.Kind, .string p_1.Text]) (Fact.dn _ hCb2)
  replace hS := hS.fact (SlF R_KeyD v1 r_0.Reads) (SlR.dn hv1)
  unfold record_Find_1 at hM
  refine wp_seq_k fun K3 hK3 => ?_
  refine r_list ?_
  refine wl rfl (k_box hS rfl (cs := [.int .i64 r_0.Key.Kind, .string r_0.Key.Text, .string r_0.Value, v1, .int .i64 r_0.Changed, .int .i64 r_0.Verified, .int .i64 r_0.Cost, .bool r_0.Dirty]) rfl rfl fun b4 hnb6 a w hk hS => ?_)
  refine wl rfl (ky (v := .bool false) hS (y_assign hS rfl) rfl rfl fun a hS => ?_)
  refine wpList_nil ?_
  try simp only [Exit.then, Exit.inBlock, ↓reduceIte, Nat.reduceEqDiff]
  refine hK3 _ _ ?_
  refine wp_seq_k fun K4 hK4 => ?_
  refine r_list ?_
  refine wl rfl (ky (v := .pointer (some ⟨b4, 0 + 0, none⟩)) hS (y_fld hS rfl fl54_0) rfl rfl fun a hS => ?_)
  refine wl rfl (ky (v := .agg #[.int .i64 r_0.Key.Kind, .string r_0.Key.Text]) hS (y_load hS rfl ty28 0 rfl id (us := [.int .i64 r_0.Key.Kind, .string r_0.Key.Text]) rfl rfl (fun h => by cases h)) rfl rfl fun a hS => ?_)
  refine wl rfl (ky (v := .agg #[.int .i64 p_1.Kind, .string p_1.Text]) hS (y_loadc (k := 0) hS ty28 1 rfl rfl (fun _ h => h.elim) (us := [.int .i64 p_1.Kind, .string p_1.Text]) rfl rfl (fun h => by cases h)) rfl rfl fun a hS => ?_)
  refine wl rfl (ky (v := .bool ((r_0.Key.Kind : Int) == p_1.Kind && r_0.Key.Text.toList == p_1.Text.toList)) hS (eq28 hS rfl rfl) rfl rfl fun a hS => ?_)
  refine wl rfl (ky (v := .bool ((r_0.Key.Kind : Int) == p_1.Kind && r_0.Key.Text.toList == p_1.Text.toList)) hS (y_assign hS rfl) rfl rfl fun a hS => ?_)
  refine wpList_nil ?_
  try simp only [Exit.then, Exit.inBlock, ↓reduceIte, Nat.reduceEqDiff]
  refine hK4 _ _ ?_
  refine wp_ret ?_
  injection hM with hM
  subst hM
  try simp only [Exit.then, Exit.inBlock, ↓reduceIte, Nat.reduceEqDiff]
  refine ret_ok hS Tryd.results83 (res_tmp hS rfl res_nil) ?_
  exact rfl

noncomputable def record_Find (l_0 : (List RecordD)) (k_1 : KeyD) : Option (RecordD × Bool) := (indexf_Record (fun x0 => record_Find_1 x0 k_1) l_0).bind fun u28 => cond (decide ((u28 : Int) < 0)) (some (((RecordD.mk (KeyD.mk 0 (ByteArray.mk #[])) (ByteArray.mk #[]) ([]) 0 0 0 false), false))) ((getI l_0 u28).bind fun e31 => (record_Own e31).bind fun u38 => some ((u38, true)))
set_option maxRecDepth 100000 in
set_option maxHeartbeats 4000000 in
theorem record_Find_c (T : Nat → Prop) (W0 : World) (hT : ∀ k, T k → k < W0.heap.size) (hLv : LvP T W0) (l_0 : (List RecordD)) (k_1 : KeyD) (v1 : Value) (hv1 : SlR R_RecordD T W0 v1 l_0) (y : RecordD × Bool) (hM : record_Find l_0 k_1 = some y) : Rets Tryd.prog No 44 [v1, .agg #[.int .i64 k_1.Kind, .string k_1.Text]] W0 (fun v w' => ∃ (v2 : Value) (cl3 : List Value), v = .tuple #[.agg #[.int .i64 y.1.Key.Kind, .string y.1.Key.Text, .string y.1.Value, v2, .int .i64 y.1.Changed, .int .i64 y.1.Verified, .int .i64 y.1.Cost, .bool y.1.Dirty], .bool y.2] ∧ OwnR R_KeyD T W0 w' [.own v2 28 R_KeyD.size cl3] 28 v2 cl3 y.1.Reads) := by
  refine enter (c := _) Tryd.func44 rfl T 18 Tryd.ntmps44 hT rfl fun a hS => ?_
  replace hS := hS.fact LvF (LvP.dn hLv)
  replace hS := hS.fact (SlF R_RecordD v1 l_0) (SlR.dn hv1)
  unfold record_Find at hM
  refine wp_seq_k fun K7 hK7 => ?_
  refine r_list ?_
  refine wl rfl (k_box hS rfl (cs := [.int .i64 k_1.Kind, .string k_1.Text]) rfl rfl fun b21 hnb23 a w hk hS => ?_)
  refine wl rfl (k_alloc hS ze54 rfl fun b24 hnb26 a w hk hS => ?_)
  refine wl rfl (ky (v := .bool false) hS (y_assign hS rfl) rfl rfl fun a hS => ?_)
  refine wpList_nil ?_
  try simp only [Exit.then, Exit.inBlock, ↓reduceIte, Nat.reduceEqDiff]
  refine hK7 _ _ ?_
  refine wp_seq_k fun K8 hK8 => ?_
  refine r_list ?_
  refine wl rfl (ky (v := v1) hS (y_move hS rfl) rfl rfl fun a hS => ?_)
  replace hS := hS.freezeBox 1 rfl
  refine wl rfl (ky (v := .func (.func 83) #[] #[.pointer (some ⟨b21, 0, none⟩)]) hS (y_mkfunc (vs := [.pointer (some ⟨b21, 0, none⟩)]) hS rfl) rfl rfl fun a hS => ?_)
  obtain ⟨u28, hu28, hM⟩ := bd hM
  refine wl rfl (k_call hS ci82 rfl rfl (indexf_Record_c _ _ hS.dlt (hS.get 2 rfl) 83 ci83 [.pointer (some ⟨b21, 0, none⟩)] (AndF (CellsF b21 0 [.int .i64 k_1.Kind, .string k_1.Text]) TrueF) (fun x0 => record_Find_1 x0 k_1) (fun T W0 hT hLv hP x0 v1 hv1 y hM => record_Find_1_c T W0 hT x0 k_1 v1 b21 hv1 hP.1 y hM) ⟨(hS.get 0 rfl), trivial⟩ l_0 _ (hS.get 1 rfl) _ hu28) fun _ w hR a hk hA => ?_)
  have he := Eq.symm hR
  subst he
  have hS := hA [] (fun r hr => by cases hr) List.Pairwise.nil
  refine wl rfl (ky (v := .int .i64 u28) hS (y_assign hS rfl) rfl rfl fun a hS => ?_)
  refine wpList_nil ?_
  try simp only [Exit.then, Exit.inBlock, ↓reduceIte, Nat.reduceEqDiff]
  refine hK8 _ _ ?_
  refine wp_seq_k fun K9 hK9 => ?_
  refine wp_seq_k fun K10 hK10 => ?_
  refine r_list ?_
  refine wl rfl (ky (v := .int .i64 u28) hS (y_move hS rfl) rfl rfl fun a hS => ?_)
  refine wl rfl (ky (v := .bool (decide ((u28 : Int) < 0))) hS (y_int hS rfl rfl rfl) rfl rfl fun a hS => ?_)
  refine wpList_nil ?_
  try simp only [Exit.then, Exit.inBlock, ↓reduceIte, Nat.reduceEqDiff]
  refine hK10 _ _ ?_
  rcases bool2 (decide ((u28 : Int) < 0)) with hb30 | hb30
  · replace hM := ct hb30 hM
    refine c_t hS rfl hb30 ?_
    refine wp_seq_k fun K11 hK11 => ?_
    refine r_list ?_
    refine wl rfl (ky (v := .agg #[.int .i64 0, .string (ByteArray.mk #[]), .string (ByteArray.mk #[]), .slice none 0 0, .int .i64 0, .int .i64 0, .int .i64 0, .bool false]) hS (y_build (ps := []) hS pl54 ze54 rfl (us := []) trivial (ws := [.int .i64 0, .string (ByteArray.mk #[]), .string (ByteArray.mk #[]), .slice none 0 0, .int .i64 0, .int .i64 0, .int .i64 0, .bool false]) rfl) rfl rfl fun a hS => ?_)
    refine wl rfl (k_store hS rfl rfl (us := [.int .i64 0, .string (ByteArray.mk #[]), .string (ByteArray.mk #[]), .slice none 0 0, .int .i64 0, .int .i64 0, .int .i64 0, .bool false]) rfl ty54 0 rfl rfl rfl (oc rfl (oc rfl (oc rfl (oc rfl (oc rfl (oc rfl (oc rfl (oc rfl on)))))))) fun w hk hS => ?_)
    refine wl rfl (ky (v := .bool false) hS (y_assign hS rfl) rfl rfl fun a hS => ?_)
    refine wpList_nil ?_
    try simp only [Exit.then, Exit.inBlock, ↓reduceIte, Nat.reduceEqDiff]
    refine hK11 _ _ ?_
    refine wp_ret ?_
    injection hM with hM
    subst hM
    try simp only [Exit.then, Exit.inBlock, ↓reduceIte, Nat.reduceEqDiff]
    refine ret_ok hS Tryd.results44 (res_cell hS rfl 0 rfl ty54 rfl (fun h => by cases h) (res_tmp hS rfl res_nil)) ?_
    exact ⟨.slice none 0 0, [], rfl, ret_nil _ _ _ _ _ _⟩
  · replace hM := cf hb30 hM
    refine c_f hS rfl hb30 ?_
    refine wp_skip ?_
    try simp only [Exit.then, Exit.inBlock, ↓reduceIte, Nat.reduceEqDiff]
    refine hK9 _ _ ?_
    refine wp_seq_k fun K12 hK12 => ?_
    refine r_list ?_
    refine wl rfl (ky (v := v1) hS (y_move hS rfl) rfl rfl fun a hS => ?_)
    refine wl rfl (ky (v := .int .i64 u28) hS (y_move hS rfl) rfl rfl fun a hS => ?_)
    obtain ⟨e31, he31, hM⟩ := bd hM
    refine wl rfl (k_index (R := R_RecordD) hS sl51 ty54 rfl rfl 1 rfl he31 rfl fun b33 o34 cs36 hr35 a hS => ?_)
    obtain ⟨v32, rfl, hv32⟩ := hr35
    replace hS := hS.fact (SlF R_KeyD v32 e31.Reads) hv32
    refine wl rfl (ky (v := .agg #[.int .i64 e31.Key.Kind, .string e31.Key.Text, .string e31.Value, v32, .int .i64 e31.Changed, .int .i64 e31.Verified, .int .i64 e31.Cost, .bool e31.Dirty]) hS (y_loadc (k := 0) hS ty54 1 rfl rfl (fun _ h => h.elim) (us := [.int .i64 e31.Key.Kind, .string e31.Key.Text, .string e31.Value, v32, .int .i64 e31.Changed, .int .i64 e31.Verified, .int .i64 e31.Cost, .bool e31.Dirty]) rfl rfl (fun h => by cases h)) rfl rfl fun a hS => ?_)
    obtain ⟨u38, hu38, hM⟩ := bd hM
    refine wl rfl (k_call hS ci77 rfl rfl (record_Own_c _ _ hS.dlt e31 _ (hS.get 0 rfl) _ hu38) fun _ w hR a hk hA => ?_)
    obtain ⟨vz39_2, clz39_3, he, ⟨hOvz39_2, hFvz39_2, hRvz39_2⟩⟩ := hR
    replace he := he.symm
    subst he
    have hS := hA [.own vz39_2 28 R_KeyD.size clz39_3] (adds1 ⟨hOvz39_2, by decide⟩ hFvz39_2) (pw1 _)
    replace hS := hS.fact (RowsF R_KeyD clz39_3 u38.Reads) (hRvz39_2.keep (Kt.refl _ _) (dT_dT _))
    refine wl rfl (k_store hS rfl rfl (us := [.int .i64 u38.Key.Kind, .string u38.Key.Text, .string u38.Value, vz39_2, .int .i64 u38.Changed, .int .i64 u38.Verified, .int .i64 u38.Cost, .bool u38.Dirty]) rfl ty54 1 rfl rfl rfl (oc rfl (oc rfl (oc rfl (oc (own_one (hS.own _ (List.mem_of_getElem? (i := 0) rfl)).1) (oc rfl (oc rfl (oc rfl (oc rfl on)))))))) fun w hk hS => ?_)
    refine wl rfl (ky (v := .bool true) hS (y_assign hS rfl) rfl rfl fun a hS => ?_)
    refine wpList_nil ?_
    try simp only [Exit.then, Exit.inBlock, ↓reduceIte, Nat.reduceEqDiff]
    refine hK12 _ _ ?_
    refine wp_ret ?_
    injection hM with hM
    subst hM
    try simp only [Exit.then, Exit.inBlock, ↓reduceIte, Nat.reduceEqDiff]
    refine ret_ok hS Tryd.results44 (res_cell hS rfl 1 rfl ty54 rfl (fun h => by cases h) (res_tmp hS rfl res_nil)) ?_
    exact ⟨vz39_2, clz39_3, rfl, hS.retOwn ⟨.inr (List.mem_of_getElem? (i := 0) rfl), trivial⟩ 0 rfl 0 rfl⟩

noncomputable def record_Size (r_0 : RecordD) : Option Int := some (IntKind.i64.wrap ((IntKind.i64.wrap ((IntKind.i64.wrap (16 + (r_0.Key.Text.size : Int))) + (r_0.Value.size : Int))) + (IntKind.i64.wrap (8 * (r_0.Reads.length : Int)))))
set_option maxRecDepth 100000 in
set_option maxHeartbeats 4000000 in
theorem record_Size_c (T : Nat → Prop) (W0 : World) (hT : ∀ k, T k → k < W0.heap.size) (r_0 : RecordD) (v1 : Value) (hv1 : SlR R_KeyD T W0 v1 r_0.Reads) (y : Int) (hM : record_Size r_0 = some y) : Rets Tryd.prog No 47 [.agg #[.int .i64 r_0.Key.Kind, .string r_0.Key.Text, .string r_0.Value, v1, .int .i64 r_0.Changed, .int .i64 r_0.Verified, .int .i64 r_0.Cost, .bool r_0.Dirty]] W0 (fun v w' => v = .int .i64 y) := by
  refine enter (c := _) Tryd.func47 rfl T 17 Tryd.ntmps47 hT rfl fun a hS => ?_
  replace hS := hS.fact (SlF R_KeyD v1 r_0.Reads) (SlR.dn hv1)
  unfold record_Size at hM
  refine wp_seq_k fun K3 hK3 => ?_
  refine r_list ?_
  refine wl rfl (k_box hS rfl (cs := [.int .i64 r_0.Key.Kind, .string r_0.Key.Text, .string r_0.Value, v1, .int .i64 r_0.Changed, .int .i64 r_0.Verified, .int .i64 r_0.Cost, .bool r_0.Dirty]) rfl rfl fun b4 hnb6 a w hk hS => ?_)
  refine wl rfl (ky (v := .int .i64 0) hS (y_assign hS rfl) rfl rfl fun a hS => ?_)
  refine wpList_nil ?_
  try simp only [Exit.then, Exit.inBlock, ↓reduceIte, Nat.reduceEqDiff]
  refine hK3 _ _ ?_
  refine wp_seq_k fun K4 hK4 => ?_
  refine r_list ?_
  refine wl rfl (ky (v := .pointer (some ⟨b4, 0 + 0, none⟩)) hS (y_fld hS rfl fl54_0) rfl rfl fun a hS => ?_)
  refine wl rfl (ky (v := .pointer (some ⟨b4, 0 + 0 + 1, none⟩)) hS (y_fld hS rfl fl28_1) rfl rfl fun a hS => ?_)
  refine wl rfl (ky (v := .string r_0.Key.Text) hS (y_load hS rfl ty9 0 rfl id (us := [.string r_0.Key.Text]) rfl rfl (fun _ => rfl)) rfl rfl fun a hS => ?_)
  refine wl rfl (ky (v := .int .i64 (r_0.Key.Text.size : Int)) hS (y_lens hS Tryd.underlying9 rfl) rfl rfl fun a hS => ?_)
  refine wl rfl (ky (v := .int .i64 (IntKind.i64.wrap (16 + (r_0.Key.Text.size : Int)))) hS (y_int hS rfl rfl rfl) rfl rfl fun a hS => ?_)
  refine wl rfl (ky (v := .pointer (some ⟨b4, 0 + 2, none⟩)) hS (y_fld hS rfl fl54_1) rfl rfl fun a hS => ?_)
  refine wl rfl (ky (v := .string r_0.Value) hS (y_load hS rfl ty9 0 rfl id (us := [.string r_0.Value]) rfl rfl (fun _ => rfl)) rfl rfl fun a hS => ?_)
  refine wl rfl (ky (v := .int .i64 (r_0.Value.size : Int)) hS (y_lens hS Tryd.underlying9 rfl) rfl rfl fun a hS => ?_)
  refine wl rfl (ky (v := .int .i64 (IntKind.i64.wrap ((IntKind.i64.wrap (16 + (r_0.Key.Text.size : Int))) + (r_0.Value.size : Int)))) hS (y_int hS rfl rfl rfl) rfl rfl fun a hS => ?_)
  refine wl rfl (ky (v := .pointer (some ⟨b4, 0 + 3, none⟩)) hS (y_fld hS rfl fl54_2) rfl rfl fun a hS => ?_)
  refine wl rfl (ky (v := v1) hS (y_load hS rfl ty22 0 rfl id (us := [v1]) rfl rfl (fun _ => rfl)) rfl rfl fun a hS => ?_)
  refine wl rfl (ky (v := .int .i64 (r_0.Reads.length : Int)) hS (y_len (R := R_KeyD) (xs := r_0.Reads) hS sl22 rfl 0 rfl) rfl rfl fun a hS => ?_)
  refine wl rfl (ky (v := .int .i64 (IntKind.i64.wrap (8 * (r_0.Reads.length : Int)))) hS (y_int hS rfl rfl rfl) rfl rfl fun a hS => ?_)
  refine wl rfl (ky (v := .int .i64 (IntKind.i64.wrap ((IntKind.i64.wrap ((IntKind.i64.wrap (16 + (r_0.Key.Text.size : Int))) + (r_0.Value.size : Int))) + (IntKind.i64.wrap (8 * (r_0.Reads.length : Int)))))) hS (y_int hS rfl rfl rfl) rfl rfl fun a hS => ?_)
  refine wl rfl (ky (v := .int .i64 (IntKind.i64.wrap ((IntKind.i64.wrap ((IntKind.i64.wrap (16 + (r_0.Key.Text.size : Int))) + (r_0.Value.size : Int))) + (IntKind.i64.wrap (8 * (r_0.Reads.length : Int)))))) hS (y_assign hS rfl) rfl rfl fun a hS => ?_)
  refine wpList_nil ?_
  try simp only [Exit.then, Exit.inBlock, ↓reduceIte, Nat.reduceEqDiff]
  refine hK4 _ _ ?_
  refine wp_ret ?_
  injection hM with hM
  subst hM
  try simp only [Exit.then, Exit.inBlock, ↓reduceIte, Nat.reduceEqDiff]
  refine ret_ok hS Tryd.results47 (res_tmp hS rfl res_nil) ?_
  exact rfl

noncomputable def record_Valid_1 (k_0 : KeyD) : Option Bool := (key_Valid k_0).bind fun u9 => some (!(u9))
set_option maxRecDepth 100000 in
set_option maxHeartbeats 4000000 in
theorem record_Valid_1_c (T : Nat → Prop) (W0 : World) (hT : ∀ k, T k → k < W0.heap.size) (hLv : LvP T W0) (k_0 : KeyD) (y : Bool) (hM : record_Valid_1 k_0 = some y) : Rets Tryd.prog No 85 [.agg #[.int .i64 k_0.Kind, .string k_0.Text]] W0 (fun v w' => v = .bool y) := by
  refine enter (c := _) Tryd.func85 rfl T 6 Tryd.ntmps85 hT rfl fun a hS => ?_
  replace hS := hS.fact LvF (LvP.dn hLv)
  unfold record_Valid_1 at hM
  refine wp_seq_k fun K3 hK3 => ?_
  refine r_list ?_
  refine wl rfl (k_box hS rfl (cs := [.int .i64 k_0.Kind, .string k_0.Text]) rfl rfl fun b6 hnb8 a w hk hS => ?_)
  refine wl rfl (ky (v := .bool false) hS (y_assign hS rfl) rfl rfl fun a hS => ?_)
  refine wpList_nil ?_
  try simp only [Exit.then, Exit.inBlock, ↓reduceIte, Nat.reduceEqDiff]
  refine hK3 _ _ ?_
  refine wp_seq_k fun K4 hK4 => ?_
  refine r_list ?_
  refine wl rfl (ky (v := .agg #[.int .i64 k_0.Kind, .string k_0.Text]) hS (y_load hS rfl ty28 0 rfl id (us := [.int .i64 k_0.Kind, .string k_0.Text]) rfl rfl (fun h => by cases h)) rfl rfl fun a hS => ?_)
  obtain ⟨u9, hu9, hM⟩ := bd hM
  refine wl rfl (k_call hS ci21 rfl rfl (key_Valid_c _ _ hS.dlt (hS.get 0 rfl) k_0 _ hu9) fun _ w hR a hk hA => ?_)
  have he := Eq.symm hR
  subst he
  have hS := hA [] (fun r hr => by cases hr) List.Pairwise.nil
  refine wl rfl (ky (v := .bool (!(u9))) hS (y_not hS rfl) rfl rfl fun a hS => ?_)
  refine wl rfl (ky (v := .bool (!(u9))) hS (y_assign hS rfl) rfl rfl fun a hS => ?_)
  refine wpList_nil ?_
  try simp only [Exit.then, Exit.inBlock, ↓reduceIte, Nat.reduceEqDiff]
  refine hK4 _ _ ?_
  refine wp_ret ?_
  injection hM with hM
  subst hM
  try simp only [Exit.then, Exit.inBlock, ↓reduceIte, Nat.reduceEqDiff]
  refine ret_ok hS Tryd.results85 (res_tmp hS rfl res_nil) ?_
  exact rfl

noncomputable def indexf_Key_j1 : Option Int := some ((-1))
noncomputable def indexf_Key_l2 (s_0 : (List KeyD)) (f_1 : KeyD → Option Bool) (g47 : Int) (g48 : Int) : Option (Fl (Int × Int) (Fl (Unit) Int)) := cond (decide ((g48 : Int) < g47)) ((getI s_0 g48).bind fun e62 => (f_1 e62).bind fun u68 => cond u68 (some (.out (.out g48))) (some (.go (g47, IntKind.i64.wrap (g48 + 1))))) (some (.out (.go ())))
noncomputable def indexf_Key (f_1 : KeyD → Option Bool) (s_0 : (List KeyD)) : Option Int := (loop (fun s : Int × Int => indexf_Key_l2 s_0 f_1 s.1 s.2) ((s_0.length : Int), 0)).bind fun r => Fl.el r (fun s => indexf_Key_j1) (fun y => some (y))
set_option maxRecDepth 100000 in
set_option maxHeartbeats 4000000 in
theorem indexf_Key_c (T : Nat → Prop) (W0 : World) (hT : ∀ k, T k → k < W0.heap.size) (hLv : LvP T W0) (f_1g : Nat) (hcf_1 : callI Tryd.prog f_1g = true) (f_1k : List Value) (f_1P : Fact) (f_1 : KeyD → Option Bool) (hf_1 : ∀ (T : Nat → Prop) (W0 : World) (hT : ∀ k, T k → k < W0.heap.size) (hLv : LvP T W0) (hP : f_1P.p T W0) (x0 : KeyD) (y : Bool) (hM : f_1 x0 = some y), Rets Tryd.prog No f_1g ([.agg #[.int .i64 x0.Kind, .string x0.Text]] ++ f_1k) W0 (fun v w' => v = .bool y)) (hPf_1 : f_1P.p T W0) (s_0 : (List KeyD)) (v1 : Value) (hv1 : SlR R_KeyD T W0 v1 s_0) (y : Int) (hM : indexf_Key f_1 s_0 = some y) : Rets Tryd.prog No 106 [v1, .func (.func f_1g) #[] f_1k.toArray] W0 (fun v w' => v = .int .i64 y) := by
  refine enter (c := _) Tryd.func106 rfl T 19 Tryd.ntmps106 hT rfl fun a hS => ?_
  replace hS := hS.fact f_1P (Fact.dn _ hPf_1)
  replace hS := hS.fact LvF (LvP.dn hLv)
  replace hS := hS.fact (SlF R_KeyD v1 s_0) (SlR.dn hv1)
  unfold indexf_Key at hM
  refine wp_seq_k fun K17 hK17 => ?_
  refine r_list ?_
  refine wl rfl (ky (v := .int .i64 0) hS (y_assign hS rfl) rfl rfl fun a hS => ?_)
  refine wpList_nil ?_
  try simp only [Exit.then, Exit.inBlock, ↓reduceIte, Nat.reduceEqDiff]
  refine hK17 _ _ ?_
  refine seq_j (J := fun a w => St W0 No T 19 [] [] [LvF, f_1P] a w ∧ indexf_Key_j1 = some y) ?_ ?_
  · skip
    refine wp_seq_k fun K26 hK26 => ?_
    refine r_list ?_
    refine wl rfl (ky (v := v1) hS (y_move hS rfl) rfl rfl fun a hS => ?_)
    refine wl rfl (ky (v := .int .i64 (s_0.length : Int)) hS (y_len (R := R_KeyD) (xs := s_0) hS sl22 rfl 0 rfl) rfl rfl fun a hS => ?_)
    refine wl rfl (ky (v := .int .i64 0) hS (y_move hS rfl) rfl rfl fun a hS => ?_)
    refine wpList_nil ?_
    try simp only [Exit.then, Exit.inBlock, ↓reduceIte, Nat.reduceEqDiff]
    refine hK26 _ _ ?_
    refine wp_block ?_
    obtain ⟨r1, hl1, hMo1⟩ := bd hM
    refine wp_lp (fun s : Int × Int => indexf_Key_l2 s_0 f_1 s.1 s.2) (fun s a w => ∃ (g47 : Int) (g48 : Int), (g47, g48) = s ∧ St W0 No T 19 [(0, v1), (1, .func (.func f_1g) #[] f_1k.toArray), (7, .int .i64 g47), (8, .int .i64 g48)] [] [SlF R_KeyD v1 s_0, LvF, f_1P] a w) hl1 ⟨(s_0.length : Int), 0, rfl, (hS.meet [] (by decide) ⟨rfl, rfl, rfl, rfl, trivial⟩ trivial ⟨⟨0, rfl⟩, ⟨1, rfl⟩, ⟨2, rfl⟩, trivial⟩)⟩ ?_
    rintro s a w f1 ⟨g47, g48, rfl, hS⟩ hM hf1
    have hM : indexf_Key_l2 s_0 f_1 g47 g48 = some f1 := hM
    unfold indexf_Key_l2 at hM
    refine wp_seq_k fun K33 hK33 => ?_
    refine r_list ?_
    refine wl rfl (ky (v := .bool (decide ((g48 : Int) < g47))) hS (y_int hS rfl rfl rfl) rfl rfl fun a hS => ?_)
    refine wpList_nil ?_
    try simp only [Exit.then, Exit.inBlock, ↓reduceIte, Nat.reduceEqDiff]
    refine hK33 _ _ ?_
    refine wp_seq_k fun K34 hK34 => ?_
    rcases bool2 (decide ((g48 : Int) < g47)) with hb61 | hb61
    · replace hM := ct hb61 hM
      refine c_t hS rfl hb61 ?_
      refine wp_skip ?_
      try simp only [Exit.then, Exit.inBlock, ↓reduceIte, Nat.reduceEqDiff]
      refine hK34 _ _ ?_
      refine wp_seq_k fun K35 hK35 => ?_
      refine wp_block ?_
      refine wp_seq_k fun K36 hK36 => ?_
      refine r_list ?_
      refine wl rfl (ky (v := .int .i64 g48) hS (y_move hS rfl) rfl rfl fun a hS => ?_)
      refine wl rfl (ky (v := .int .i64 g48) hS (y_assign hS rfl) rfl rfl fun a hS => ?_)
      refine wpList_nil ?_
      try simp only [Exit.then, Exit.inBlock, ↓reduceIte, Nat.reduceEqDiff]
      refine hK36 _ _ ?_
      refine wp_seq_k fun K37 hK37 => ?_
      refine r_list ?_
      refine wl rfl (ky (v := .func (.func f_1g) #[] f_1k.toArray) hS (y_move hS rfl) rfl rfl fun a hS => ?_)
      refine wl rfl (ky (v := v1) hS (y_move hS rfl) rfl rfl fun a hS => ?_)
      refine wl rfl (ky (v := .int .i64 g48) hS (y_move hS rfl) rfl rfl fun a hS => ?_)
      obtain ⟨e62, he62, hM⟩ := bd hM
      refine wl rfl (k_index (R := R_KeyD) hS sl22 ty28 rfl rfl 0 rfl he62 rfl fun b63 o64 cs66 hr65 a hS => ?_)
      obtain rfl := hr65
      refine wl rfl (ky (v := .agg #[.int .i64 e62.Kind, .string e62.Text]) hS (y_loadc (k := 0) hS ty28 0 rfl rfl (fun _ h => h.elim) (us := [.int .i64 e62.Kind, .string e62.Text]) rfl rfl (fun h => by cases h)) rfl rfl fun a hS => ?_)
      obtain ⟨u68, hu68, hM⟩ := bd hM
      refine wl rfl (k_callv (cap := f_1k) hS rfl hcf_1 rfl rfl (hf_1 _ _ hS.dlt (hS.get 2 rfl) (hS.get 3 rfl) e62 _ hu68) fun _ w hR a hk hA => ?_)
      have he := Eq.symm hR
      subst he
      have hS := hA [] (fun r hr => by cases hr) List.Pairwise.nil
      refine wpList_nil ?_
      try simp only [Exit.then, Exit.inBlock, ↓reduceIte, Nat.reduceEqDiff]
      refine hK37 _ _ ?_
      rcases bool2 (u68) with hb70 | hb70
      · replace hM := ct hb70 hM
        refine c_t hS rfl hb70 ?_
        refine wp_seq_k fun K38 hK38 => ?_
        refine r_list ?_
        refine wl rfl (ky (v := .int .i64 g48) hS (y_move hS rfl) rfl rfl fun a hS => ?_)
        refine wl rfl (ky (v := .int .i64 g48) hS (y_assign hS rfl) rfl rfl fun a hS => ?_)
        refine wpList_nil ?_
        try simp only [Exit.then, Exit.inBlock, ↓reduceIte, Nat.reduceEqDiff]
        refine hK38 _ _ ?_
        refine wp_ret ?_
        injection hM with hM
        subst hM
        have hr := hf1 _ rfl
        subst hr
        replace hMo1 := el_out hMo1
        have hM := hMo1
        injection hM with hM
        subst hM
        try simp only [Exit.then, Exit.inBlock, ↓reduceIte, Nat.reduceEqDiff]
        refine ret_ok hS Tryd.results106 (res_tmp hS rfl res_nil) ?_
        exact rfl
      · replace hM := cf hb70 hM
        refine c_f hS rfl hb70 ?_
        refine wp_skip ?_
        try simp only [Exit.then, Exit.inBlock, ↓reduceIte, Nat.reduceEqDiff]
        refine hK35 _ _ ?_
        refine r_list ?_
        refine wl rfl (ky (v := .int .i64 (IntKind.i64.wrap (g48 + 1))) hS (y_int hS rfl rfl rfl) rfl rfl fun a hS => ?_)
        refine wl rfl (ky (v := .int .i64 (IntKind.i64.wrap (g48 + 1))) hS (y_move hS rfl) rfl rfl fun a hS => ?_)
        refine wpList_nil ?_
        try simp only [Exit.then, Exit.inBlock, ↓reduceIte, Nat.reduceEqDiff]
        exact ⟨(g47, IntKind.i64.wrap (g48 + 1)), (Option.some.inj hM).symm, g47, (IntKind.i64.wrap (g48 + 1)), rfl, (hS.meet [] (by decide) ⟨rfl, rfl, rfl, rfl, trivial⟩ trivial ⟨⟨1, rfl⟩, ⟨2, rfl⟩, ⟨3, rfl⟩, trivial⟩)⟩
    · replace hM := cf hb61 hM
      refine c_f hS rfl hb61 ?_
      refine wp_exit ?_
      try simp only [Exit.then, Exit.inBlock, ↓reduceIte, Nat.reduceEqDiff]
      injection hM with hM
      subst hM
      have hr := hf1 _ rfl
      subst hr
      replace hMo1 := el_go hMo1
      have hM : indexf_Key_j1 = some y := hMo1
      exact ⟨(hS.meet [] (by decide) trivial trivial ⟨⟨1, rfl⟩, ⟨2, rfl⟩, trivial⟩), hM⟩
  · rintro a w ⟨hS, hM⟩
    unfold indexf_Key_j1 at hM
    refine wp_seq_k fun K25 hK25 => ?_
    refine r_list ?_
    refine wl rfl (ky (v := .int .i64 (-1)) hS (y_assign hS rfl) rfl rfl fun a hS => ?_)
    refine wpList_nil ?_
    try simp only [Exit.then, Exit.inBlock, ↓reduceIte, Nat.reduceEqDiff]
    refine hK25 _ _ ?_
    refine wp_ret ?_
    injection hM with hM
    subst hM
    try simp only [Exit.then, Exit.inBlock, ↓reduceIte, Nat.reduceEqDiff]
    refine ret_ok hS Tryd.results106 (res_tmp hS rfl res_nil) ?_
    exact rfl

noncomputable def containsf_Key (f_1 : KeyD → Option Bool) (s_0 : (List KeyD)) : Option Bool := (indexf_Key f_1 s_0).bind fun u3 => some (decide ((0 : Int) ≤ u3))
set_option maxRecDepth 100000 in
set_option maxHeartbeats 4000000 in
theorem containsf_Key_c (T : Nat → Prop) (W0 : World) (hT : ∀ k, T k → k < W0.heap.size) (hLv : LvP T W0) (f_1g : Nat) (hcf_1 : callI Tryd.prog f_1g = true) (f_1k : List Value) (f_1P : Fact) (f_1 : KeyD → Option Bool) (hf_1 : ∀ (T : Nat → Prop) (W0 : World) (hT : ∀ k, T k → k < W0.heap.size) (hLv : LvP T W0) (hP : f_1P.p T W0) (x0 : KeyD) (y : Bool) (hM : f_1 x0 = some y), Rets Tryd.prog No f_1g ([.agg #[.int .i64 x0.Kind, .string x0.Text]] ++ f_1k) W0 (fun v w' => v = .bool y)) (hPf_1 : f_1P.p T W0) (s_0 : (List KeyD)) (v1 : Value) (hv1 : SlR R_KeyD T W0 v1 s_0) (y : Bool) (hM : containsf_Key f_1 s_0 = some y) : Rets Tryd.prog No 86 [v1, .func (.func f_1g) #[] f_1k.toArray] W0 (fun v w' => v = .bool y) := by
  refine enter (c := _) Tryd.func86 rfl T 9 Tryd.ntmps86 hT rfl fun a hS => ?_
  replace hS := hS.fact f_1P (Fact.dn _ hPf_1)
  replace hS := hS.fact LvF (LvP.dn hLv)
  replace hS := hS.fact (SlF R_KeyD v1 s_0) (SlR.dn hv1)
  unfold containsf_Key at hM
  refine wp_seq_k fun K3 hK3 => ?_
  refine r_list ?_
  refine wl rfl (ky (v := .bool false) hS (y_assign hS rfl) rfl rfl fun a hS => ?_)
  refine wpList_nil ?_
  try simp only [Exit.then, Exit.inBlock, ↓reduceIte, Nat.reduceEqDiff]
  refine hK3 _ _ ?_
  refine wp_seq_k fun K4 hK4 => ?_
  refine r_list ?_
  refine wl rfl (ky (v := v1) hS (y_move hS rfl) rfl rfl fun a hS => ?_)
  refine wl rfl (ky (v := .func (.func f_1g) #[] f_1k.toArray) hS (y_move hS rfl) rfl rfl fun a hS => ?_)
  obtain ⟨u3, hu3, hM⟩ := bd hM
  refine wl rfl (k_call hS ci106 rfl rfl (indexf_Key_c _ _ hS.dlt (hS.get 1 rfl) f_1g hcf_1 f_1k f_1P f_1 hf_1 (hS.get 2 rfl) s_0 _ (hS.get 0 rfl) _ hu3) fun _ w hR a hk hA => ?_)
  have he := Eq.symm hR
  subst he
  have hS := hA [] (fun r hr => by cases hr) List.Pairwise.nil
  refine wl rfl (ky (v := .bool (decide ((0 : Int) ≤ u3))) hS (y_int hS rfl rfl rfl) rfl rfl fun a hS => ?_)
  refine wl rfl (ky (v := .bool (decide ((0 : Int) ≤ u3))) hS (y_assign hS rfl) rfl rfl fun a hS => ?_)
  refine wpList_nil ?_
  try simp only [Exit.then, Exit.inBlock, ↓reduceIte, Nat.reduceEqDiff]
  refine hK4 _ _ ?_
  refine wp_ret ?_
  injection hM with hM
  subst hM
  try simp only [Exit.then, Exit.inBlock, ↓reduceIte, Nat.reduceEqDiff]
  refine ret_ok hS Tryd.results86 (res_tmp hS rfl res_nil) ?_
  exact rfl

noncomputable def record_Valid_j1 (g106 : Bool) : Option Bool := some (g106)
noncomputable def record_Valid_j2 (r_0 : RecordD) (g90 : Bool) : Option Bool := cond g90 (some (false)) (cond (decide ((0 : Int) ≤ r_0.Changed)) (cond (decide ((r_0.Changed : Int) ≤ r_0.Verified)) (cond (decide ((r_0.Verified : Int) ≤ 1073741824)) (cond (decide ((1 : Int) ≤ r_0.Cost)) (cond (decide ((r_0.Cost : Int) ≤ 1073741824)) ((containsf_Key record_Valid_1 r_0.Reads).bind fun u112 => record_Valid_j1 (!(u112))) (record_Valid_j1 false)) (record_Valid_j1 false)) (record_Valid_j1 false)) (record_Valid_j1 false)) (record_Valid_j1 false))
noncomputable def record_Valid (r_0 : RecordD) : Option Bool := (key_Valid r_0.Key).bind fun u114 => cond (!(u114)) (record_Valid_j2 r_0 true) ((key_Input r_0.Key).bind fun u117 => cond u117 (record_Valid_j2 r_0 true) (cond (decide ((1073741824 : Int) < (r_0.Value.size : Int))) (record_Valid_j2 r_0 true) (cond (decide ((4000 : Int) < (r_0.Reads.length : Int))) (record_Valid_j2 r_0 true) (cond r_0.Dirty ((key_Cyclic r_0.Key).bind fun u123 => record_Valid_j2 r_0 (!(u123))) (record_Valid_j2 r_0 false)))))
set_option maxRecDepth 100000 in
set_option maxHeartbeats 4000000 in
theorem record_Valid_c (T : Nat → Prop) (W0 : World) (hT : ∀ k, T k → k < W0.heap.size) (hLv : LvP T W0) (r_0 : RecordD) (v1 : Value) (hv1 : SlR R_KeyD T W0 v1 r_0.Reads) (y : Bool) (hM : record_Valid r_0 = some y) : Rets Tryd.prog No 48 [.agg #[.int .i64 r_0.Key.Kind, .string r_0.Key.Text, .string r_0.Value, v1, .int .i64 r_0.Changed, .int .i64 r_0.Verified, .int .i64 r_0.Cost, .bool r_0.Dirty]] W0 (fun v w' => v = .bool y) := by
  refine enter (c := _) Tryd.func48 rfl T 67 Tryd.ntmps48 hT rfl fun a hS => ?_
  replace hS := hS.fact LvF (LvP.dn hLv)
  replace hS := hS.fact (SlF R_KeyD v1 r_0.Reads) (SlR.dn hv1)
  unfold record_Valid at hM
  refine wp_seq_k fun K5 hK5 => ?_
  refine r_list ?_
  refine wl rfl (k_box hS rfl (cs := [.int .i64 r_0.Key.Kind, .string r_0.Key.Text, .string r_0.Value, v1, .int .i64 r_0.Changed, .int .i64 r_0.Verified, .int .i64 r_0.Cost, .bool r_0.Dirty]) rfl rfl fun b65 hnb67 a w hk hS => ?_)
  refine wl rfl (ky (v := .bool false) hS (y_assign hS rfl) rfl rfl fun a hS => ?_)
  refine wpList_nil ?_
  try simp only [Exit.then, Exit.inBlock, ↓reduceIte, Nat.reduceEqDiff]
  refine hK5 _ _ ?_
  refine wp_seq_k fun K6 hK6 => ?_
  refine seq_j (J := fun a w => ∃ (g90 : Bool), St W0 No T 67 [(1, .pointer (some ⟨b65, 0, none⟩)), (34, .bool g90)] [.box b65 [.int .i64 r_0.Key.Kind, .string r_0.Key.Text, .string r_0.Value, v1, .int .i64 r_0.Changed, .int .i64 r_0.Verified, .int .i64 r_0.Cost, .bool r_0.Dirty] 54] [SlF R_KeyD v1 r_0.Reads, LvF] a w ∧ record_Valid_j2 r_0 g90 = some y) ?_ ?_
  · skip
    refine r_list ?_
    refine wl rfl (ky (v := .pointer (some ⟨b65, 0 + 0, none⟩)) hS (y_fld hS rfl fl54_0) rfl rfl fun a hS => ?_)
    refine wl rfl (ky (v := .agg #[.int .i64 r_0.Key.Kind, .string r_0.Key.Text]) hS (y_load hS rfl ty28 0 rfl id (us := [.int .i64 r_0.Key.Kind, .string r_0.Key.Text]) rfl rfl (fun h => by cases h)) rfl rfl fun a hS => ?_)
    obtain ⟨u114, hu114, hM⟩ := bd hM
    refine wl rfl (k_call hS ci21 rfl rfl (key_Valid_c _ _ hS.dlt (hS.get 1 rfl) r_0.Key _ hu114) fun _ w hR a hk hA => ?_)
    have he := Eq.symm hR
    subst he
    have hS := hA [] (fun r hr => by cases hr) List.Pairwise.nil
    refine wl rfl (ky (v := .bool (!(u114))) hS (y_not hS rfl) rfl rfl fun a hS => ?_)
    refine wl rfl (ky (v := .bool (!(u114))) hS (y_move hS rfl) rfl rfl fun a hS => ?_)
    rcases bool2 (!(u114)) with hb116 | hb116
    · replace hM := ct hb116 hM
      refine wn hS rfl rfl rfl hb116 rfl rfl fun a hS => ?_
      refine wn hS rfl rfl rfl hb116 rfl rfl fun a hS => ?_
      refine wn hS rfl rfl rfl hb116 rfl rfl fun a hS => ?_
      refine wl rfl (ky (v := .bool true) hS (y_pickt hS rfl hb116 rfl) rfl rfl fun a hS => ?_)
      refine wl rfl (ky (v := .bool true) hS (y_move hS rfl) rfl rfl fun a hS => ?_)
      refine wn hS rfl rfl rfl rfl rfl rfl fun a hS => ?_
      refine wn hS rfl rfl rfl rfl rfl rfl fun a hS => ?_
      refine wn hS rfl rfl rfl rfl rfl rfl fun a hS => ?_
      refine wn hS rfl rfl rfl rfl rfl rfl fun a hS => ?_
      refine wl rfl (ky (v := .bool true) hS (y_pickt hS rfl rfl rfl) rfl rfl fun a hS => ?_)
      refine wl rfl (ky (v := .bool true) hS (y_move hS rfl) rfl rfl fun a hS => ?_)
      refine wn hS rfl rfl rfl rfl rfl rfl fun a hS => ?_
      refine wn hS rfl rfl rfl rfl rfl rfl fun a hS => ?_
      refine wn hS rfl rfl rfl rfl rfl rfl fun a hS => ?_
      refine wn hS rfl rfl rfl rfl rfl rfl fun a hS => ?_
      refine wl rfl (ky (v := .bool true) hS (y_pickt hS rfl rfl rfl) rfl rfl fun a hS => ?_)
      refine wl rfl (ky (v := .bool true) hS (y_move hS rfl) rfl rfl fun a hS => ?_)
      refine wn hS rfl rfl rfl rfl rfl rfl fun a hS => ?_
      refine wn hS rfl rfl rfl rfl rfl rfl fun a hS => ?_
      refine wn hS rfl rfl rfl rfl rfl rfl fun a hS => ?_
      refine wnu hS rfl rfl rfl rfl rfl fun a hS => ?_
      refine wnu hS rfl rfl rfl rfl rfl fun a hS => ?_
      refine wnu hS rfl rfl rfl rfl rfl fun a hS => ?_
      refine wnu hS rfl rfl rfl rfl rfl fun a hS => ?_
      refine wn hS rfl rfl rfl rfl rfl rfl fun a hS => ?_
      refine wl rfl (ky (v := .bool true) hS (y_pickt hS rfl rfl rfl) rfl rfl fun a hS => ?_)
      refine wpList_nil ?_
      try simp only [Exit.then, Exit.inBlock, ↓reduceIte, Nat.reduceEqDiff]
      exact ⟨true, (hS.meet [0] (by decide) ⟨rfl, rfl, trivial⟩ ⟨rfl, trivial⟩ ⟨⟨0, rfl⟩, ⟨1, rfl⟩, trivial⟩), hM⟩
    · replace hM := cf hb116 hM
      refine wg hS rfl rfl rfl hb116 (ky (v := .pointer (some ⟨b65, 0 + 0, none⟩)) hS (y_fld hS rfl fl54_0) rfl rfl fun a hS => ?_)
      refine wg hS rfl rfl rfl hb116 (ky (v := .agg #[.int .i64 r_0.Key.Kind, .string r_0.Key.Text]) hS (y_load hS rfl ty28 0 rfl id (us := [.int .i64 r_0.Key.Kind, .string r_0.Key.Text]) rfl rfl (fun h => by cases h)) rfl rfl fun a hS => ?_)
      obtain ⟨u117, hu117, hM⟩ := bd hM
      refine wg hS rfl rfl rfl hb116 (k_call hS ci25 rfl rfl (key_Input_c _ _ hS.dlt r_0.Key _ hu117) fun _ w hR a hk hA => ?_)
      have he := Eq.symm hR
      subst he
      have hS := hA [] (fun r hr => by cases hr) List.Pairwise.nil
      refine wl rfl (ky (v := .bool u117) hS (y_pickf hS rfl hb116 rfl) rfl rfl fun a hS => ?_)
      refine wl rfl (ky (v := .bool u117) hS (y_move hS rfl) rfl rfl fun a hS => ?_)
      rcases bool2 (u117) with hb119 | hb119
      · replace hM := ct hb119 hM
        refine wn hS rfl rfl rfl hb119 rfl rfl fun a hS => ?_
        refine wn hS rfl rfl rfl hb119 rfl rfl fun a hS => ?_
        refine wn hS rfl rfl rfl hb119 rfl rfl fun a hS => ?_
        refine wn hS rfl rfl rfl hb119 rfl rfl fun a hS => ?_
        refine wl rfl (ky (v := .bool true) hS (y_pickt hS rfl hb119 rfl) rfl rfl fun a hS => ?_)
        refine wl rfl (ky (v := .bool true) hS (y_move hS rfl) rfl rfl fun a hS => ?_)
        refine wn hS rfl rfl rfl rfl rfl rfl fun a hS => ?_
        refine wn hS rfl rfl rfl rfl rfl rfl fun a hS => ?_
        refine wn hS rfl rfl rfl rfl rfl rfl fun a hS => ?_
        refine wn hS rfl rfl rfl rfl rfl rfl fun a hS => ?_
        refine wl rfl (ky (v := .bool true) hS (y_pickt hS rfl rfl rfl) rfl rfl fun a hS => ?_)
        refine wl rfl (ky (v := .bool true) hS (y_move hS rfl) rfl rfl fun a hS => ?_)
        refine wn hS rfl rfl rfl rfl rfl rfl fun a hS => ?_
        refine wn hS rfl rfl rfl rfl rfl rfl fun a hS => ?_
        refine wn hS rfl rfl rfl rfl rfl rfl fun a hS => ?_
        refine wnu hS rfl rfl rfl rfl rfl fun a hS => ?_
        refine wnu hS rfl rfl rfl rfl rfl fun a hS => ?_
        refine wnu hS rfl rfl rfl rfl rfl fun a hS => ?_
        refine wnu hS rfl rfl rfl rfl rfl fun a hS => ?_
        refine wn hS rfl rfl rfl rfl rfl rfl fun a hS => ?_
        refine wl rfl (ky (v := .bool true) hS (y_pickt hS rfl rfl rfl) rfl rfl fun a hS => ?_)
        refine wpList_nil ?_
        try simp only [Exit.then, Exit.inBlock, ↓reduceIte, Nat.reduceEqDiff]
        exact ⟨true, (hS.meet [0] (by decide) ⟨rfl, rfl, trivial⟩ ⟨rfl, trivial⟩ ⟨⟨0, rfl⟩, ⟨1, rfl⟩, trivial⟩), hM⟩
      · replace hM := cf hb119 hM
        refine wg hS rfl rfl rfl hb119 (ky (v := .pointer (some ⟨b65, 0 + 2, none⟩)) hS (y_fld hS rfl fl54_1) rfl rfl fun a hS => ?_)
        refine wg hS rfl rfl rfl hb119 (ky (v := .string r_0.Value) hS (y_load hS rfl ty9 0 rfl id (us := [.string r_0.Value]) rfl rfl (fun _ => rfl)) rfl rfl fun a hS => ?_)
        refine wg hS rfl rfl rfl hb119 (ky (v := .int .i64 (r_0.Value.size : Int)) hS (y_lens hS Tryd.underlying9 rfl) rfl rfl fun a hS => ?_)
        refine wg hS rfl rfl rfl hb119 (ky (v := .bool (decide ((1073741824 : Int) < (r_0.Value.size : Int)))) hS (y_int hS rfl rfl rfl) rfl rfl fun a hS => ?_)
        refine wl rfl (ky (v := .bool (decide ((1073741824 : Int) < (r_0.Value.size : Int)))) hS (y_pickf hS rfl hb119 rfl) rfl rfl fun a hS => ?_)
        refine wl rfl (ky (v := .bool (decide ((1073741824 : Int) < (r_0.Value.size : Int)))) hS (y_move hS rfl) rfl rfl fun a hS => ?_)
        rcases bool2 (decide ((1073741824 : Int) < (r_0.Value.size : Int))) with hb120 | hb120
        · replace hM := ct hb120 hM
          refine wn hS rfl rfl rfl hb120 rfl rfl fun a hS => ?_
          refine wn hS rfl rfl rfl hb120 rfl rfl fun a hS => ?_
          refine wn hS rfl rfl rfl hb120 rfl rfl fun a hS => ?_
          refine wn hS rfl rfl rfl hb120 rfl rfl fun a hS => ?_
          refine wl rfl (ky (v := .bool true) hS (y_pickt hS rfl hb120 rfl) rfl rfl fun a hS => ?_)
          refine wl rfl (ky (v := .bool true) hS (y_move hS rfl) rfl rfl fun a hS => ?_)
          refine wn hS rfl rfl rfl rfl rfl rfl fun a hS => ?_
          refine wn hS rfl rfl rfl rfl rfl rfl fun a hS => ?_
          refine wn hS rfl rfl rfl rfl rfl rfl fun a hS => ?_
          refine wnu hS rfl rfl rfl rfl rfl fun a hS => ?_
          refine wnu hS rfl rfl rfl rfl rfl fun a hS => ?_
          refine wnu hS rfl rfl rfl rfl rfl fun a hS => ?_
          refine wnu hS rfl rfl rfl rfl rfl fun a hS => ?_
          refine wn hS rfl rfl rfl rfl rfl rfl fun a hS => ?_
          refine wl rfl (ky (v := .bool true) hS (y_pickt hS rfl rfl rfl) rfl rfl fun a hS => ?_)
          refine wpList_nil ?_
          try simp only [Exit.then, Exit.inBlock, ↓reduceIte, Nat.reduceEqDiff]
          exact ⟨true, (hS.meet [0] (by decide) ⟨rfl, rfl, trivial⟩ ⟨rfl, trivial⟩ ⟨⟨0, rfl⟩, ⟨1, rfl⟩, trivial⟩), hM⟩
        · replace hM := cf hb120 hM
          refine wg hS rfl rfl rfl hb120 (ky (v := .pointer (some ⟨b65, 0 + 3, none⟩)) hS (y_fld hS rfl fl54_2) rfl rfl fun a hS => ?_)
          refine wg hS rfl rfl rfl hb120 (ky (v := v1) hS (y_load hS rfl ty22 0 rfl id (us := [v1]) rfl rfl (fun _ => rfl)) rfl rfl fun a hS => ?_)
          refine wg hS rfl rfl rfl hb120 (ky (v := .int .i64 (r_0.Reads.length : Int)) hS (y_len (R := R_KeyD) (xs := r_0.Reads) hS sl22 rfl 0 rfl) rfl rfl fun a hS => ?_)
          refine wg hS rfl rfl rfl hb120 (ky (v := .bool (decide ((4000 : Int) < (r_0.Reads.length : Int)))) hS (y_int hS rfl rfl rfl) rfl rfl fun a hS => ?_)
          refine wl rfl (ky (v := .bool (decide ((4000 : Int) < (r_0.Reads.length : Int)))) hS (y_pickf hS rfl hb120 rfl) rfl rfl fun a hS => ?_)
          refine wl rfl (ky (v := .bool (decide ((4000 : Int) < (r_0.Reads.length : Int)))) hS (y_move hS rfl) rfl rfl fun a hS => ?_)
          rcases bool2 (decide ((4000 : Int) < (r_0.Reads.length : Int))) with hb121 | hb121
          · replace hM := ct hb121 hM
            refine wn hS rfl rfl rfl hb121 rfl rfl fun a hS => ?_
            refine wn hS rfl rfl rfl hb121 rfl rfl fun a hS => ?_
            refine wn hS rfl rfl rfl hb121 rfl rfl fun a hS => ?_
            refine wnu hS rfl rfl rfl rfl rfl fun a hS => ?_
            refine wnu hS rfl rfl rfl rfl rfl fun a hS => ?_
            refine wnu hS rfl rfl rfl rfl rfl fun a hS => ?_
            refine wnu hS rfl rfl rfl rfl rfl fun a hS => ?_
            refine wn hS rfl rfl rfl hb121 rfl rfl fun a hS => ?_
            refine wl rfl (ky (v := .bool true) hS (y_pickt hS rfl hb121 rfl) rfl rfl fun a hS => ?_)
            refine wpList_nil ?_
            try simp only [Exit.then, Exit.inBlock, ↓reduceIte, Nat.reduceEqDiff]
            exact ⟨true, (hS.meet [0] (by decide) ⟨rfl, rfl, trivial⟩ ⟨rfl, trivial⟩ ⟨⟨0, rfl⟩, ⟨1, rfl⟩, trivial⟩), hM⟩
          · replace hM := cf hb121 hM
            refine wg hS rfl rfl rfl hb121 (ky (v := .pointer (some ⟨b65, 0 + 7, none⟩)) hS (y_fld hS rfl fl54_6) rfl rfl fun a hS => ?_)
            refine wg hS rfl rfl rfl hb121 (ky (v := .bool r_0.Dirty) hS (y_load hS rfl ty4 0 rfl id (us := [.bool r_0.Dirty]) rfl rfl (fun _ => rfl)) rfl rfl fun a hS => ?_)
            refine wg hS rfl rfl rfl hb121 (ky (v := .bool r_0.Dirty) hS (y_move hS rfl) rfl rfl fun a hS => ?_)
            rcases bool2 (r_0.Dirty) with hb122 | hb122
            · replace hM := ct hb122 hM
              refine wg hS rfl rfl rfl hb122 (ky (v := .pointer (some ⟨b65, 0 + 0, none⟩)) hS (y_fld hS rfl fl54_0) rfl rfl fun a hS => ?_)
              refine wg hS rfl rfl rfl hb122 (ky (v := .agg #[.int .i64 r_0.Key.Kind, .string r_0.Key.Text]) hS (y_load hS rfl ty28 0 rfl id (us := [.int .i64 r_0.Key.Kind, .string r_0.Key.Text]) rfl rfl (fun h => by cases h)) rfl rfl fun a hS => ?_)
              obtain ⟨u123, hu123, hM⟩ := bd hM
              refine wg hS rfl rfl rfl hb122 (k_call hS ci27 rfl rfl (key_Cyclic_c _ _ hS.dlt r_0.Key _ hu123) fun _ w hR a hk hA => ?_)
              have he := Eq.symm hR
              subst he
              have hS := hA [] (fun r hr => by cases hr) List.Pairwise.nil
              refine wg hS rfl rfl rfl hb122 (ky (v := .bool (!(u123))) hS (y_not hS rfl) rfl rfl fun a hS => ?_)
              refine wg hS rfl rfl rfl hb121 (ky (v := .bool (!(u123))) hS (y_pickt hS rfl hb122 rfl) rfl rfl fun a hS => ?_)
              refine wl rfl (ky (v := .bool (!(u123))) hS (y_pickf hS rfl hb121 rfl) rfl rfl fun a hS => ?_)
              refine wpList_nil ?_
              try simp only [Exit.then, Exit.inBlock, ↓reduceIte, Nat.reduceEqDiff]
              exact ⟨(!(u123)), (hS.meet [0] (by decide) ⟨rfl, rfl, trivial⟩ ⟨rfl, trivial⟩ ⟨⟨0, rfl⟩, ⟨1, rfl⟩, trivial⟩), hM⟩
            · replace hM := cf hb122 hM
              refine wn hS rfl rfl rfl hb122 rfl rfl fun a hS => ?_
              refine wn hS rfl rfl rfl hb122 rfl rfl fun a hS => ?_
              refine wn hS rfl rfl rfl hb122 rfl rfl fun a hS => ?_
              refine wn hS rfl rfl rfl hb122 rfl rfl fun a hS => ?_
              refine wg hS rfl rfl rfl hb121 (ky (v := .bool false) hS (y_pickf hS rfl hb122 rfl) rfl rfl fun a hS => ?_)
              refine wl rfl (ky (v := .bool false) hS (y_pickf hS rfl hb121 rfl) rfl rfl fun a hS => ?_)
              refine wpList_nil ?_
              try simp only [Exit.then, Exit.inBlock, ↓reduceIte, Nat.reduceEqDiff]
              exact ⟨false, (hS.meet [0] (by decide) ⟨rfl, rfl, trivial⟩ ⟨rfl, trivial⟩ ⟨⟨0, rfl⟩, ⟨1, rfl⟩, trivial⟩), hM⟩
  · rintro a w ⟨g90, hS, hM⟩
    unfold record_Valid_j2 at hM
    rcases bool2 (g90) with hb91 | hb91
    · replace hM := ct hb91 hM
      refine c_t hS rfl hb91 ?_
      refine wp_seq_k fun K7 hK7 => ?_
      refine r_list ?_
      refine wl rfl (ky (v := .bool false) hS (y_assign hS rfl) rfl rfl fun a hS => ?_)
      refine wpList_nil ?_
      try simp only [Exit.then, Exit.inBlock, ↓reduceIte, Nat.reduceEqDiff]
      refine hK7 _ _ ?_
      refine wp_ret ?_
      injection hM with hM
      subst hM
      try simp only [Exit.then, Exit.inBlock, ↓reduceIte, Nat.reduceEqDiff]
      refine ret_ok hS Tryd.results48 (res_tmp hS rfl res_nil) ?_
      exact rfl
    · replace hM := cf hb91 hM
      refine c_f hS rfl hb91 ?_
      refine wp_skip ?_
      try simp only [Exit.then, Exit.inBlock, ↓reduceIte, Nat.reduceEqDiff]
      refine hK6 _ _ ?_
      refine wp_seq_k fun K8 hK8 => ?_
      refine r_list ?_
      refine wl rfl (ky (v := .func (.func 85) #[] #[]) hS (y_assign hS rfl) rfl rfl fun a hS => ?_)
      refine wpList_nil ?_
      try simp only [Exit.then, Exit.inBlock, ↓reduceIte, Nat.reduceEqDiff]
      refine hK8 _ _ ?_
      refine seq_j (J := fun a w => ∃ (g106 : Bool), St W0 No T 67 [(2, .bool g106)] [] [LvF] a w ∧ record_Valid_j1 g106 = some y) ?_ ?_
      · skip
        refine r_list ?_
        refine wl rfl (ky (v := .pointer (some ⟨b65, 0 + 4, none⟩)) hS (y_fld hS rfl fl54_3) rfl rfl fun a hS => ?_)
        refine wl rfl (ky (v := .int .i64 r_0.Changed) hS (y_load hS rfl ty3 0 rfl id (us := [.int .i64 r_0.Changed]) rfl rfl (fun _ => rfl)) rfl rfl fun a hS => ?_)
        refine wl rfl (ky (v := .bool (decide ((0 : Int) ≤ r_0.Changed))) hS (y_int hS rfl rfl rfl) rfl rfl fun a hS => ?_)
        refine wl rfl (ky (v := .bool (decide ((0 : Int) ≤ r_0.Changed))) hS (y_move hS rfl) rfl rfl fun a hS => ?_)
        rcases bool2 (decide ((0 : Int) ≤ r_0.Changed)) with hb107 | hb107
        · replace hM := ct hb107 hM
          refine wg hS rfl rfl rfl hb107 (ky (v := .pointer (some ⟨b65, 0 + 4, none⟩)) hS (y_fld hS rfl fl54_3) rfl rfl fun a hS => ?_)
          refine wg hS rfl rfl rfl hb107 (ky (v := .int .i64 r_0.Changed) hS (y_load hS rfl ty3 0 rfl id (us := [.int .i64 r_0.Changed]) rfl rfl (fun _ => rfl)) rfl rfl fun a hS => ?_)
          refine wg hS rfl rfl rfl hb107 (ky (v := .pointer (some ⟨b65, 0 + 5, none⟩)) hS (y_fld hS rfl fl54_4) rfl rfl fun a hS => ?_)
          refine wg hS rfl rfl rfl hb107 (ky (v := .int .i64 r_0.Verified) hS (y_load hS rfl ty3 0 rfl id (us := [.int .i64 r_0.Verified]) rfl rfl (fun _ => rfl)) rfl rfl fun a hS => ?_)
          refine wg hS rfl rfl rfl hb107 (ky (v := .bool (decide ((r_0.Changed : Int) ≤ r_0.Verified))) hS (y_int hS rfl rfl rfl) rfl rfl fun a hS => ?_)
          refine wl rfl (ky (v := .bool (decide ((r_0.Changed : Int) ≤ r_0.Verified))) hS (y_pickt hS rfl hb107 rfl) rfl rfl fun a hS => ?_)
          refine wl rfl (ky (v := .bool (decide ((r_0.Changed : Int) ≤ r_0.Verified))) hS (y_move hS rfl) rfl rfl fun a hS => ?_)
          rcases bool2 (decide ((r_0.Changed : Int) ≤ r_0.Verified)) with hb108 | hb108
          · replace hM := ct hb108 hM
            refine wg hS rfl rfl rfl hb108 (ky (v := .pointer (some ⟨b65, 0 + 5, none⟩)) hS (y_fld hS rfl fl54_4) rfl rfl fun a hS => ?_)
            refine wg hS rfl rfl rfl hb108 (ky (v := .int .i64 r_0.Verified) hS (y_load hS rfl ty3 0 rfl id (us := [.int .i64 r_0.Verified]) rfl rfl (fun _ => rfl)) rfl rfl fun a hS => ?_)
            refine wg hS rfl rfl rfl hb108 (ky (v := .bool (decide ((r_0.Verified : Int) ≤ 1073741824))) hS (y_int hS rfl rfl rfl) rfl rfl fun a hS => ?_)
            refine wl rfl (ky (v := .bool (decide ((r_0.Verified : Int) ≤ 1073741824))) hS (y_pickt hS rfl hb108 rfl) rfl rfl fun a hS => ?_)
            refine wl rfl (ky (v := .bool (decide ((r_0.Verified : Int) ≤ 1073741824))) hS (y_move hS rfl) rfl rfl fun a hS => ?_)
            rcases bool2 (decide ((r_0.Verified : Int) ≤ 1073741824)) with hb109 | hb109
            · replace hM := ct hb109 hM
              refine wg hS rfl rfl rfl hb109 (ky (v := .pointer (some ⟨b65, 0 + 6, none⟩)) hS (y_fld hS rfl fl54_5) rfl rfl fun a hS => ?_)
              refine wg hS rfl rfl rfl hb109 (ky (v := .int .i64 r_0.Cost) hS (y_load hS rfl ty3 0 rfl id (us := [.int .i64 r_0.Cost]) rfl rfl (fun _ => rfl)) rfl rfl fun a hS => ?_)
              refine wg hS rfl rfl rfl hb109 (ky (v := .bool (decide ((1 : Int) ≤ r_0.Cost))) hS (y_int hS rfl rfl rfl) rfl rfl fun a hS => ?_)
              refine wl rfl (ky (v := .bool (decide ((1 : Int) ≤ r_0.Cost))) hS (y_pickt hS rfl hb109 rfl) rfl rfl fun a hS => ?_)
              refine wl rfl (ky (v := .bool (decide ((1 : Int) ≤ r_0.Cost))) hS (y_move hS rfl) rfl rfl fun a hS => ?_)
              rcases bool2 (decide ((1 : Int) ≤ r_0.Cost)) with hb110 | hb110
              · replace hM := ct hb110 hM
                refine wg hS rfl rfl rfl hb110 (ky (v := .pointer (some ⟨b65, 0 + 6, none⟩)) hS (y_fld hS rfl fl54_5) rfl rfl fun a hS => ?_)
                refine wg hS rfl rfl rfl hb110 (ky (v := .int .i64 r_0.Cost) hS (y_load hS rfl ty3 0 rfl id (us := [.int .i64 r_0.Cost]) rfl rfl (fun _ => rfl)) rfl rfl fun a hS => ?_)
                refine wg hS rfl rfl rfl hb110 (ky (v := .bool (decide ((r_0.Cost : Int) ≤ 1073741824))) hS (y_int hS rfl rfl rfl) rfl rfl fun a hS => ?_)
                refine wl rfl (ky (v := .bool (decide ((r_0.Cost : Int) ≤ 1073741824))) hS (y_pickt hS rfl hb110 rfl) rfl rfl fun a hS => ?_)
                refine wl rfl (ky (v := .bool (decide ((r_0.Cost : Int) ≤ 1073741824))) hS (y_move hS rfl) rfl rfl fun a hS => ?_)
                rcases bool2 (decide ((r_0.Cost : Int) ≤ 1073741824)) with hb111 | hb111
                · replace hM := ct hb111 hM
                  refine wg hS rfl rfl rfl hb111 (ky (v := .pointer (some ⟨b65, 0 + 3, none⟩)) hS (y_fld hS rfl fl54_2) rfl rfl fun a hS => ?_)
                  refine wg hS rfl rfl rfl hb111 (ky (v := v1) hS (y_load hS rfl ty22 0 rfl id (us := [v1]) rfl rfl (fun _ => rfl)) rfl rfl fun a hS => ?_)
                  refine wg hS rfl rfl rfl hb111 (ky (v := .func (.func 85) #[] #[]) hS (y_move hS rfl) rfl rfl fun a hS => ?_)
                  obtain ⟨u112, hu112, hM⟩ := bd hM
                  refine wg hS rfl rfl rfl hb111 (k_call hS ci86 rfl rfl (containsf_Key_c _ _ hS.dlt (hS.get 1 rfl) 85 ci85 [] TrueF record_Valid_1 (fun T W0 hT hLv _ x0 y hM => record_Valid_1_c T W0 hT hLv x0 y hM) trivial r_0.Reads _ (hS.get 0 rfl) _ hu112) fun _ w hR a hk hA => ?_)
                  have he := Eq.symm hR
                  subst he
                  have hS := hA [] (fun r hr => by cases hr) List.Pairwise.nil
                  refine wg hS rfl rfl rfl hb111 (ky (v := .bool (!(u112))) hS (y_not hS rfl) rfl rfl fun a hS => ?_)
                  refine wl rfl (ky (v := .bool (!(u112))) hS (y_pickt hS rfl hb111 rfl) rfl rfl fun a hS => ?_)
                  refine wl rfl (ky (v := .bool (!(u112))) hS (y_assign hS rfl) rfl rfl fun a hS => ?_)
                  refine wpList_nil ?_
                  try simp only [Exit.then, Exit.inBlock, ↓reduceIte, Nat.reduceEqDiff]
                  exact ⟨(!(u112)), (hS.meet [] (by decide) ⟨rfl, trivial⟩ trivial ⟨⟨1, rfl⟩, trivial⟩), hM⟩
                · replace hM := cf hb111 hM
                  refine wn hS rfl rfl rfl hb111 rfl rfl fun a hS => ?_
                  refine wn hS rfl rfl rfl hb111 rfl rfl fun a hS => ?_
                  refine wn hS rfl rfl rfl hb111 rfl rfl fun a hS => ?_
                  refine wn hS rfl rfl rfl hb111 rfl rfl fun a hS => ?_
                  refine wn hS rfl rfl rfl hb111 rfl rfl fun a hS => ?_
                  refine wl rfl (ky (v := .bool false) hS (y_pickf hS rfl hb111 rfl) rfl rfl fun a hS => ?_)
                  refine wl rfl (ky (v := .bool false) hS (y_assign hS rfl) rfl rfl fun a hS => ?_)
                  refine wpList_nil ?_
                  try simp only [Exit.then, Exit.inBlock, ↓reduceIte, Nat.reduceEqDiff]
                  exact ⟨false, (hS.meet [] (by decide) ⟨rfl, trivial⟩ trivial ⟨⟨1, rfl⟩, trivial⟩), hM⟩
              · replace hM := cf hb110 hM
                refine wn hS rfl rfl rfl hb110 rfl rfl fun a hS => ?_
                refine wn hS rfl rfl rfl hb110 rfl rfl fun a hS => ?_
                refine wn hS rfl rfl rfl hb110 rfl rfl fun a hS => ?_
                refine wl rfl (ky (v := .bool false) hS (y_pickf hS rfl hb110 rfl) rfl rfl fun a hS => ?_)
                refine wl rfl (ky (v := .bool false) hS (y_move hS rfl) rfl rfl fun a hS => ?_)
                refine wn hS rfl rfl rfl rfl rfl rfl fun a hS => ?_
                refine wn hS rfl rfl rfl rfl rfl rfl fun a hS => ?_
                refine wn hS rfl rfl rfl rfl rfl rfl fun a hS => ?_
                refine wn hS rfl rfl rfl rfl rfl rfl fun a hS => ?_
                refine wn hS rfl rfl rfl rfl rfl rfl fun a hS => ?_
                refine wl rfl (ky (v := .bool false) hS (y_pickf hS rfl rfl rfl) rfl rfl fun a hS => ?_)
                refine wl rfl (ky (v := .bool false) hS (y_assign hS rfl) rfl rfl fun a hS => ?_)
                refine wpList_nil ?_
                try simp only [Exit.then, Exit.inBlock, ↓reduceIte, Nat.reduceEqDiff]
                exact ⟨false, (hS.meet [] (by decide) ⟨rfl, trivial⟩ trivial ⟨⟨1, rfl⟩, trivial⟩), hM⟩
            · replace hM := cf hb109 hM
              refine wn hS rfl rfl rfl hb109 rfl rfl fun a hS => ?_
              refine wn hS rfl rfl rfl hb109 rfl rfl fun a hS => ?_
              refine wn hS rfl rfl rfl hb109 rfl rfl fun a hS => ?_
              refine wl rfl (ky (v := .bool false) hS (y_pickf hS rfl hb109 rfl) rfl rfl fun a hS => ?_)
              refine wl rfl (ky (v := .bool false) hS (y_move hS rfl) rfl rfl fun a hS => ?_)
              refine wn hS rfl rfl rfl rfl rfl rfl fun a hS => ?_
              refine wn hS rfl rfl rfl rfl rfl rfl fun a hS => ?_
              refine wn hS rfl rfl rfl rfl rfl rfl fun a hS => ?_
              refine wl rfl (ky (v := .bool false) hS (y_pickf hS rfl rfl rfl) rfl rfl fun a hS => ?_)
              refine wl rfl (ky (v := .bool false) hS (y_move hS rfl) rfl rfl fun a hS => ?_)
              refine wn hS rfl rfl rfl rfl rfl rfl fun a hS => ?_
              refine wn hS rfl rfl rfl rfl rfl rfl fun a hS => ?_
              refine wn hS rfl rfl rfl rfl rfl rfl fun a hS => ?_
              refine wn hS rfl rfl rfl rfl rfl rfl fun a hS => ?_
              refine wn hS rfl rfl rfl rfl rfl rfl fun a hS => ?_
              refine wl rfl (ky (v := .bool false) hS (y_pickf hS rfl rfl rfl) rfl rfl fun a hS => ?_)
              refine wl rfl (ky (v := .bool false) hS (y_assign hS rfl) rfl rfl fun a hS => ?_)
              refine wpList_nil ?_
              try simp only [Exit.then, Exit.inBlock, ↓reduceIte, Nat.reduceEqDiff]
              exact ⟨false, (hS.meet [] (by decide) ⟨rfl, trivial⟩ trivial ⟨⟨1, rfl⟩, trivial⟩), hM⟩
          · replace hM := cf hb108 hM
            refine wn hS rfl rfl rfl hb108 rfl rfl fun a hS => ?_
            refine wn hS rfl rfl rfl hb108 rfl rfl fun a hS => ?_
            refine wn hS rfl rfl rfl hb108 rfl rfl fun a hS => ?_
            refine wl rfl (ky (v := .bool false) hS (y_pickf hS rfl hb108 rfl) rfl rfl fun a hS => ?_)
            refine wl rfl (ky (v := .bool false) hS (y_move hS rfl) rfl rfl fun a hS => ?_)
            refine wn hS rfl rfl rfl rfl rfl rfl fun a hS => ?_
            refine wn hS rfl rfl rfl rfl rfl rfl fun a hS => ?_
            refine wn hS rfl rfl rfl rfl rfl rfl fun a hS => ?_
            refine wl rfl (ky (v := .bool false) hS (y_pickf hS rfl rfl rfl) rfl rfl fun a hS => ?_)
            refine wl rfl (ky (v := .bool false) hS (y_move hS rfl) rfl rfl fun a hS => ?_)
            refine wn hS rfl rfl rfl rfl rfl rfl fun a hS => ?_
            refine wn hS rfl rfl rfl rfl rfl rfl fun a hS => ?_
            refine wn hS rfl rfl rfl rfl rfl rfl fun a hS => ?_
            refine wl rfl (ky (v := .bool false) hS (y_pickf hS rfl rfl rfl) rfl rfl fun a hS => ?_)
            refine wl rfl (ky (v := .bool false) hS (y_move hS rfl) rfl rfl fun a hS => ?_)
            refine wn hS rfl rfl rfl rfl rfl rfl fun a hS => ?_
            refine wn hS rfl rfl rfl rfl rfl rfl fun a hS => ?_
            refine wn hS rfl rfl rfl rfl rfl rfl fun a hS => ?_
            refine wn hS rfl rfl rfl rfl rfl rfl fun a hS => ?_
            refine wn hS rfl rfl rfl rfl rfl rfl fun a hS => ?_
            refine wl rfl (ky (v := .bool false) hS (y_pickf hS rfl rfl rfl) rfl rfl fun a hS => ?_)
            refine wl rfl (ky (v := .bool false) hS (y_assign hS rfl) rfl rfl fun a hS => ?_)
            refine wpList_nil ?_
            try simp only [Exit.then, Exit.inBlock, ↓reduceIte, Nat.reduceEqDiff]
            exact ⟨false, (hS.meet [] (by decide) ⟨rfl, trivial⟩ trivial ⟨⟨1, rfl⟩, trivial⟩), hM⟩
        · replace hM := cf hb107 hM
          refine wn hS rfl rfl rfl hb107 rfl rfl fun a hS => ?_
          refine wn hS rfl rfl rfl hb107 rfl rfl fun a hS => ?_
          refine wn hS rfl rfl rfl hb107 rfl rfl fun a hS => ?_
          refine wn hS rfl rfl rfl hb107 rfl rfl fun a hS => ?_
          refine wn hS rfl rfl rfl hb107 rfl rfl fun a hS => ?_
          refine wl rfl (ky (v := .bool false) hS (y_pickf hS rfl hb107 rfl) rfl rfl fun a hS => ?_)
          refine wl rfl (ky (v := .bool false) hS (y_move hS rfl) rfl rfl fun a hS => ?_)
          refine wn hS rfl rfl rfl rfl rfl rfl fun a hS => ?_
          refine wn hS rfl rfl rfl rfl rfl rfl fun a hS => ?_
          refine wn hS rfl rfl rfl rfl rfl rfl fun a hS => ?_
          refine wl rfl (ky (v := .bool false) hS (y_pickf hS rfl rfl rfl) rfl rfl fun a hS => ?_)
          refine wl rfl (ky (v := .bool false) hS (y_move hS rfl) rfl rfl fun a hS => ?_)
          refine wn hS rfl rfl rfl rfl rfl rfl fun a hS => ?_
          refine wn hS rfl rfl rfl rfl rfl rfl fun a hS => ?_
          refine wn hS rfl rfl rfl rfl rfl rfl fun a hS => ?_
          refine wl rfl (ky (v := .bool false) hS (y_pickf hS rfl rfl rfl) rfl rfl fun a hS => ?_)
          refine wl rfl (ky (v := .bool false) hS (y_move hS rfl) rfl rfl fun a hS => ?_)
          refine wn hS rfl rfl rfl rfl rfl rfl fun a hS => ?_
          refine wn hS rfl rfl rfl rfl rfl rfl fun a hS => ?_
          refine wn hS rfl rfl rfl rfl rfl rfl fun a hS => ?_
          refine wl rfl (ky (v := .bool false) hS (y_pickf hS rfl rfl rfl) rfl rfl fun a hS => ?_)
          refine wl rfl (ky (v := .bool false) hS (y_move hS rfl) rfl rfl fun a hS => ?_)
          refine wn hS rfl rfl rfl rfl rfl rfl fun a hS => ?_
          refine wn hS rfl rfl rfl rfl rfl rfl fun a hS => ?_
          refine wn hS rfl rfl rfl rfl rfl rfl fun a hS => ?_
          refine wn hS rfl rfl rfl rfl rfl rfl fun a hS => ?_
          refine wn hS rfl rfl rfl rfl rfl rfl fun a hS => ?_
          refine wl rfl (ky (v := .bool false) hS (y_pickf hS rfl rfl rfl) rfl rfl fun a hS => ?_)
          refine wl rfl (ky (v := .bool false) hS (y_assign hS rfl) rfl rfl fun a hS => ?_)
          refine wpList_nil ?_
          try simp only [Exit.then, Exit.inBlock, ↓reduceIte, Nat.reduceEqDiff]
          exact ⟨false, (hS.meet [] (by decide) ⟨rfl, trivial⟩ trivial ⟨⟨1, rfl⟩, trivial⟩), hM⟩
      · rintro a w ⟨g106, hS, hM⟩
        unfold record_Valid_j1 at hM
        refine wp_ret ?_
        injection hM with hM
        subst hM
        try simp only [Exit.then, Exit.inBlock, ↓reduceIte, Nat.reduceEqDiff]
        refine ret_ok hS Tryd.results48 (res_tmp hS rfl res_nil) ?_
        exact rfl

noncomputable def record_Put (l_0 : (List RecordD)) (r_1 : RecordD) : Option (List RecordD) := (record_Copy l_0).bind fun u40 => (record_place u40 r_1.Key).bind fun u43 => cond u43.2 ((record_Own r_1).bind fun u46 => (getI u40 u43.1).bind fun e49 => some ((u40.set (Int.toNat u43.1) u46))) ((record_Own r_1).bind fun u59 => gd (decide (0 ≤ u43.1)) <| gd (decide ((u43.1 : Int) ≤ u40.length)) <| gd (roomB (u40.length + 1)) <| some ((List.take (Int.toNat u43.1) u40 ++ u59 :: List.drop (Int.toNat u43.1) u40)))
set_option maxRecDepth 100000 in
set_option maxHeartbeats 4000000 in
theorem record_Put_c (T : Nat → Prop) (W0 : World) (hT : ∀ k, T k → k < W0.heap.size) (hLv : LvP T W0) (l_0 : (List RecordD)) (r_1 : RecordD) (v1 : Value) (v2 : Value) (hv1 : SlR R_RecordD T W0 v1 l_0) (hv2 : SlR R_KeyD T W0 v2 r_1.Reads) (y : (List RecordD)) (hM : record_Put l_0 r_1 = some y) : Rets Tryd.prog No 38 [v1, .agg #[.int .i64 r_1.Key.Kind, .string r_1.Key.Text, .string r_1.Value, v2, .int .i64 r_1.Changed, .int .i64 r_1.Verified, .int .i64 r_1.Cost, .bool r_1.Dirty]] W0 (fun v w' => ∃ (v3 : Value) (cl4 : List Value), v = v3 ∧ OwnR R_RecordD T W0 w' [.own v3 54 R_RecordD.size cl4] 54 v3 cl4 y) := by
  refine enter (c := _) Tryd.func38 rfl T 30 Tryd.ntmps38 hT rfl fun a hS => ?_
  replace hS := hS.fact LvF (LvP.dn hLv)
  replace hS := hS.fact (SlF R_RecordD v1 l_0) (SlR.dn hv1)
  replace hS := hS.fact (SlF R_KeyD v2 r_1.Reads) (SlR.dn hv2)
  unfold record_Put at hM
  refine wp_seq_k fun K9 hK9 => ?_
  refine r_list ?_
  refine wl rfl (k_box hS rfl (cs := [.int .i64 r_1.Key.Kind, .string r_1.Key.Text, .string r_1.Value, v2, .int .i64 r_1.Changed, .int .i64 r_1.Verified, .int .i64 r_1.Cost, .bool r_1.Dirty]) rfl rfl fun b37 hnb39 a w hk hS => ?_)
  refine wl rfl (ky (v := .slice none 0 0) hS (y_assign hS rfl) rfl rfl fun a hS => ?_)
  refine wpList_nil ?_
  try simp only [Exit.then, Exit.inBlock, ↓reduceIte, Nat.reduceEqDiff]
  refine hK9 _ _ ?_
  refine wp_seq_k fun K10 hK10 => ?_
  refine r_list ?_
  refine wl rfl (ky (v := v1) hS (y_move hS rfl) rfl rfl fun a hS => ?_)
  obtain ⟨u40, hu40, hM⟩ := bd hM
  refine wl rfl (k_call hS ci75 rfl rfl (record_Copy_c _ _ hS.dlt l_0 _ (hS.get 1 rfl) _ hu40) fun _ w hR a hk hA => ?_)
  obtain ⟨vz41_2, clz41_3, he, ⟨hOvz41_2, hFvz41_2, hRvz41_2⟩⟩ := hR
  replace he := he.symm
  subst he
  have hS := hA [.own vz41_2 54 R_RecordD.size clz41_3] (adds1 ⟨hOvz41_2, by decide⟩ hFvz41_2) (pw1 _)
  replace hS := hS.fact (RowsF R_RecordD clz41_3 u40) (hRvz41_2.keep (Kt.refl _ _) (dT_dT _))
  refine wl rfl (ky (v := vz41_2) hS (y_assign hS rfl) rfl rfl fun a hS => ?_)
  refine wpList_nil ?_
  try simp only [Exit.then, Exit.inBlock, ↓reduceIte, Nat.reduceEqDiff]
  refine hK10 _ _ ?_
  refine wp_seq_k fun K11 hK11 => ?_
  refine r_list ?_
  refine wl rfl (ky (v := vz41_2) hS (y_move hS rfl) rfl rfl fun a hS => ?_)
  refine wl rfl (ky (v := .pointer (some ⟨b37, 0 + 0, none⟩)) hS (y_fld hS rfl fl54_0) rfl rfl fun a hS => ?_)
  refine wl rfl (ky (v := .agg #[.int .i64 r_1.Key.Kind, .string r_1.Key.Text]) hS (y_load hS rfl ty28 1 rfl id (us := [.int .i64 r_1.Key.Kind, .string r_1.Key.Text]) rfl rfl (fun h => by cases h)) rfl rfl fun a hS => ?_)
  have hL := hS
  replace hL := hL.freeze (R := R_RecordD) 0 rfl 0 rfl
  obtain ⟨u43, hu43, hM⟩ := bd hM
  refine wl rfl (k_call hS ci76 rfl rfl (record_place_c _ _ hL.dlt (hL.get 4 rfl) u40 r_1.Key _ (hL.get 0 rfl) _ hu43) fun _ w hR a hk hA => ?_)
  have he := Eq.symm hR
  subst he
  have hS := hA [] (fun r hr => by cases hr) List.Pairwise.nil
  refine wl rfl (ky (v := .tuple #[.int .i64 u43.1, .bool u43.2]) hS (y_move hS rfl) rfl rfl fun a hS => ?_)
  refine wl rfl (ky (v := .int .i64 u43.1) hS (y_ex hS rfl rfl) rfl rfl fun a hS => ?_)
  refine wl rfl (ky (v := .bool u43.2) hS (y_ex hS rfl rfl) rfl rfl fun a hS => ?_)
  refine wl rfl (ky (v := .int .i64 u43.1) hS (y_assign hS rfl) rfl rfl fun a hS => ?_)
  refine wl rfl (ky (v := .bool u43.2) hS (y_assign hS rfl) rfl rfl fun a hS => ?_)
  refine wpList_nil ?_
  try simp only [Exit.then, Exit.inBlock, ↓reduceIte, Nat.reduceEqDiff]
  refine hK11 _ _ ?_
  refine wp_seq_k fun K12 hK12 => ?_
  refine wp_seq_k fun K13 hK13 => ?_
  refine r_list ?_
  refine wl rfl (ky (v := .bool u43.2) hS (y_move hS rfl) rfl rfl fun a hS => ?_)
  refine wpList_nil ?_
  try simp only [Exit.then, Exit.inBlock, ↓reduceIte, Nat.reduceEqDiff]
  refine hK13 _ _ ?_
  rcases bool2 (u43.2) with hb45 | hb45
  · replace hM := ct hb45 hM
    refine c_t hS rfl hb45 ?_
    refine wp_seq_k fun K14 hK14 => ?_
    refine r_list ?_
    refine wl rfl (ky (v := vz41_2) hS (y_move hS rfl) rfl rfl fun a hS => ?_)
    refine wl rfl (ky (v := .int .i64 u43.1) hS (y_move hS rfl) rfl rfl fun a hS => ?_)
    refine wl rfl (ky (v := .agg #[.int .i64 r_1.Key.Kind, .string r_1.Key.Text, .string r_1.Value, v2, .int .i64 r_1.Changed, .int .i64 r_1.Verified, .int .i64 r_1.Cost, .bool r_1.Dirty]) hS (y_load hS rfl ty54 1 rfl id (us := [.int .i64 r_1.Key.Kind, .string r_1.Key.Text, .string r_1.Value, v2, .int .i64 r_1.Changed, .int .i64 r_1.Verified, .int .i64 r_1.Cost, .bool r_1.Dirty]) rfl rfl (fun h => by cases h)) rfl rfl fun a hS => ?_)
    obtain ⟨u46, hu46, hM⟩ := bd hM
    refine wl rfl (k_call hS ci77 rfl rfl (record_Own_c _ _ hS.dlt r_1 _ (hS.get 1 rfl) _ hu46) fun _ w hR a hk hA => ?_)
    obtain ⟨vz47_2, clz47_3, he, ⟨hOvz47_2, hFvz47_2, hRvz47_2⟩⟩ := hR
    replace he := he.symm
    subst he
    have hS := hA [.own vz47_2 28 R_KeyD.size clz47_3] (adds1 ⟨hOvz47_2, by decide⟩ hFvz47_2) (pw1 _)
    replace hS := hS.fact (RowsF R_KeyD clz47_3 u46.Reads) (hRvz47_2.keep (Kt.refl _ _) (dT_dT _))
    obtain ⟨e49, he49, hM⟩ := bd hM
    refine wl rfl (k_indexo (R := R_RecordD) hS sl51 ty54 rfl rfl 1 rfl 1 rfl he49 rfl fun b51 o52 p57 cs54 hr53 hO55 hC56 a hS => ?_)
    obtain ⟨v50, rfl, hv50⟩ := hr53
    replace hS := hS.fact (SlF R_KeyD v50 e49.Reads) hv50
    replace hS := hS.freeze (R := R_KeyD) 0 rfl 1 rfl
    refine wl rfl (k_storeo (R := R_RecordD) (k := 0) (cs := [.int .i64 e49.Key.Kind, .string e49.Key.Text, .string e49.Value, v50, .int .i64 e49.Changed, .int .i64 e49.Verified, .int .i64 e49.Cost, .bool e49.Dirty]) (us := [.int .i64 u46.Key.Kind, .string u46.Key.Text, .string u46.Value, vz47_2, .int .i64 u46.Changed, .int .i64 u46.Verified, .int .i64 u46.Cost, .bool u46.Dirty]) (x' := u46) hS rfl rfl rfl ty54 0 rfl 3 rfl hO55 hC56 he49 (⟨_, rfl, (hS.get 1 rfl)⟩) rfl rfl (⟨_, rfl, (hS.get 0 rfl)⟩) fun cl58 w hk hS => ?_)
    refine wpList_nil ?_
    try simp only [Exit.then, Exit.inBlock, ↓reduceIte, Nat.reduceEqDiff]
    refine hK14 _ _ ?_
    refine wp_seq_k fun K15 hK15 => ?_
    refine r_list ?_
    refine wl rfl (ky (v := vz41_2) hS (y_move hS rfl) rfl rfl fun a hS => ?_)
    refine wl rfl (ky (v := vz41_2) hS (y_assign hS rfl) rfl rfl fun a hS => ?_)
    refine wpList_nil ?_
    try simp only [Exit.then, Exit.inBlock, ↓reduceIte, Nat.reduceEqDiff]
    refine hK15 _ _ ?_
    refine wp_ret ?_
    injection hM with hM
    subst hM
    try simp only [Exit.then, Exit.inBlock, ↓reduceIte, Nat.reduceEqDiff]
    refine ret_ok hS Tryd.results38 (res_tmp hS rfl res_nil) ?_
    exact ⟨vz41_2, cl58, rfl, hS.retOwn ⟨.inr (List.mem_of_getElem? (i := 0) rfl), trivial⟩ 0 rfl 0 rfl⟩
  · replace hM := cf hb45 hM
    refine c_f hS rfl hb45 ?_
    refine wp_skip ?_
    try simp only [Exit.then, Exit.inBlock, ↓reduceIte, Nat.reduceEqDiff]
    refine hK12 _ _ ?_
    refine wp_seq_k fun K16 hK16 => ?_
    refine r_list ?_
    refine wl rfl (ky (v := vz41_2) hS (y_move hS rfl) rfl rfl fun a hS => ?_)
    refine wl rfl (ky (v := .int .i64 u43.1) hS (y_move hS rfl) rfl rfl fun a hS => ?_)
    refine wl rfl (ky (v := .agg #[.int .i64 r_1.Key.Kind, .string r_1.Key.Text, .string r_1.Value, v2, .int .i64 r_1.Changed, .int .i64 r_1.Verified, .int .i64 r_1.Cost, .bool r_1.Dirty]) hS (y_load hS rfl ty54 1 rfl id (us := [.int .i64 r_1.Key.Kind, .string r_1.Key.Text, .string r_1.Value, v2, .int .i64 r_1.Changed, .int .i64 r_1.Verified, .int .i64 r_1.Cost, .bool r_1.Dirty]) rfl rfl (fun h => by cases h)) rfl rfl fun a hS => ?_)
    obtain ⟨u59, hu59, hM⟩ := bd hM
    refine wl rfl (k_call hS ci77 rfl rfl (record_Own_c _ _ hS.dlt r_1 _ (hS.get 1 rfl) _ hu59) fun _ w hR a hk hA => ?_)
    obtain ⟨vz60_2, clz60_3, he, ⟨hOvz60_2, hFvz60_2, hRvz60_2⟩⟩ := hR
    replace he := he.symm
    subst he
    have hS := hA [.own vz60_2 28 R_KeyD.size clz60_3] (adds1 ⟨hOvz60_2, by decide⟩ hFvz60_2) (pw1 _)
    replace hS := hS.fact (RowsF R_KeyD clz60_3 u59.Reads) (hRvz60_2.keep (Kt.refl _ _) (dT_dT _))
    refine wl rfl (k_bslice (ps := [(0, .tmp 27)]) hS el51 ze54 (zl := [.int .i64 0, .string (ByteArray.mk #[]), .string (ByteArray.mk #[]), .slice none 0 0, .int .i64 0, .int .i64 0, .int .i64 0, .bool false]) (by kernel_rfl) rfl (us := [[.int .i64 u59.Key.Kind, .string u59.Key.Text, .string u59.Value, vz60_2, .int .i64 u59.Changed, .int .i64 u59.Verified, .int .i64 u59.Cost, .bool u59.Dirty]]) ⟨rfl, trivial⟩ (ws := [.int .i64 u59.Key.Kind, .string u59.Key.Text, .string u59.Value, vz60_2, .int .i64 u59.Changed, .int .i64 u59.Verified, .int .i64 u59.Cost, .bool u59.Dirty]) rfl rfl rfl rfl fun b62 a w hk hS => ?_)
    replace hS := hS.freeze (R := R_KeyD) 1 rfl 0 rfl
    obtain ⟨hg64, hM⟩ := gd_some hM
    obtain ⟨hg65, hM⟩ := gd_some hM
    obtain ⟨hg66, hM⟩ := gd_some hM
    replace hS := hS.reD (D' := [.own vz41_2 54 R_RecordD.size clz41_3, .box b62 [.int .i64 u59.Key.Kind, .string u59.Key.Text, .string u59.Value, vz60_2, .int .i64 u59.Changed, .int .i64 u59.Verified, .int .i64 u59.Cost, .bool u59.Dirty] 54, .box b37 [.int .i64 r_1.Key.Kind, .string r_1.Key.Text, .string r_1.Value, v2, .int .i64 r_1.Changed, .int .i64 r_1.Verified, .int .i64 r_1.Cost, .bool r_1.Dirty] 54]) [1, 0, 2] (by decide) ⟨rfl, rfl, rfl, trivial⟩
    replace hS := (show St W0 No T 30 _ ([.own vz41_2 54 R_RecordD.size clz41_3, .box b62 [.int .i64 u59.Key.Kind, .string u59.Key.Text, .string u59.Value, vz60_2, .int .i64 u59.Changed, .int .i64 u59.Verified, .int .i64 u59.Cost, .bool u59.Dirty] 54] ++ [.box b37 [.int .i64 r_1.Key.Kind, .string r_1.Key.Text, .string r_1.Value, v2, .int .i64 r_1.Changed, .int .i64 r_1.Verified, .int .i64 r_1.Cost, .bool r_1.Dirty] 54]) _ _ _ from hS)
    have hx67 : R_RecordD.rel (dT T ([.own vz41_2 54 R_RecordD.size clz41_3, .box b62 [.int .i64 u59.Key.Kind, .string u59.Key.Text, .string u59.Value, vz60_2, .int .i64 u59.Changed, .int .i64 u59.Verified, .int .i64 u59.Cost, .bool u59.Dirty] 54] ++ [.box b37 [.int .i64 r_1.Key.Kind, .string r_1.Key.Text, .string r_1.Value, v2, .int .i64 r_1.Changed, .int .i64 r_1.Verified, .int .i64 r_1.Cost, .bool r_1.Dirty] 54])) w [.int .i64 u59.Key.Kind, .string u59.Key.Text, .string u59.Value, vz60_2, .int .i64 u59.Changed, .int .i64 u59.Verified, .int .i64 u59.Cost, .bool u59.Dirty] u59 := ⟨_, rfl, (hS.get 0 rfl)⟩
    refine wl rfl (k_callD (D0 := [.own vz41_2 54 R_RecordD.size clz41_3, .box b62 [.int .i64 u59.Key.Kind, .string u59.Key.Text, .string u59.Value, vz60_2, .int .i64 u59.Changed, .int .i64 u59.Verified, .int .i64 u59.Cost, .bool u59.Dirty] 54]) (Dr := [.box b37 [.int .i64 r_1.Key.Kind, .string r_1.Key.Text, .string r_1.Value, v2, .int .i64 r_1.Changed, .int .i64 r_1.Verified, .int .i64 r_1.Cost, .bool r_1.Dirty] 54]) hS ci78 rfl rfl (insRec_c (R := R_RecordD) rfl _ _ _ _ _ _ _ _ _ hS.dok (hS.getD 2 rfl) (R_RecordD.keep hx67 (Kt.refl _ _) (fun k hk => .inl ((dT_split k).1 hk))) hg64 hg65 hg66) fun v68 w hR a hk hA => ?_)
    obtain ⟨cl69, hR71, hN70⟩ := hR
    have hS := hA _ hN70
    replace hS := (show St W0 No T 30 _ [.own v68 54 R_RecordD.size cl69, .box b37 [.int .i64 r_1.Key.Kind, .string r_1.Key.Text, .string r_1.Value, v2, .int .i64 r_1.Changed, .int .i64 r_1.Verified, .int .i64 r_1.Cost, .bool r_1.Dirty] 54] _ _ _ from hS)
    replace hS := hS.fact (RowsF R_RecordD cl69 (List.take (Int.toNat u43.1) u40 ++ u59 :: List.drop (Int.toNat u43.1) u40)) (hR71.keep (Kt.refl _ _) (dT_join _))
    refine wl rfl (ky (v := v68) hS (y_assign hS rfl) rfl rfl fun a hS => ?_)
    refine wpList_nil ?_
    try simp only [Exit.then, Exit.inBlock, ↓reduceIte, Nat.reduceEqDiff]
    refine hK16 _ _ ?_
    refine wp_ret ?_
    injection hM with hM
    subst hM
    try simp only [Exit.then, Exit.inBlock, ↓reduceIte, Nat.reduceEqDiff]
    refine ret_ok hS Tryd.results38 (res_tmp hS rfl res_nil) ?_
    exact ⟨v68, cl69, rfl, hS.retOwn ⟨.inr (List.mem_of_getElem? (i := 0) rfl), trivial⟩ 0 rfl 0 rfl⟩

noncomputable def record_ValidList_j1 (l_0 : (List RecordD)) : Option Bool := some (decide (((l_0.length : Int) : Int) ≤ 4000))
noncomputable def record_ValidList_j2 (g606 : Int) (g772 : Bool) : Option (Fl (Int) (Fl (Unit) Bool)) := cond g772 (some (.out (.out false))) (some (.go (IntKind.i64.wrap (g606 + 1))))
noncomputable def record_ValidList_l3 (l_0 : (List RecordD)) (g606 : Int) : Option (Fl (Int) (Fl (Unit) Bool)) := cond (decide ((g606 : Int) < (l_0.length : Int))) ((getI l_0 g606).bind fun e706 => (record_Valid e706).bind fun u788 => cond (!(u788)) (record_ValidList_j2 g606 true) (cond (decide ((0 : Int) < g606)) ((getI l_0 (IntKind.i64.wrap (g606 - 1))).bind fun e792 => (key_Cmp e792.Key e706.Key).bind fun u800 => record_ValidList_j2 g606 (decide ((0 : Int) ≤ u800))) (record_ValidList_j2 g606 false))) (some (.out (.go ())))
noncomputable def record_ValidList (l_0 : (List RecordD)) : Option Bool := (loop (fun s : Int => record_ValidList_l3 l_0 s) 0).bind fun r => Fl.el r (fun s => record_ValidList_j1 l_0) (fun y => some (y))
set_option maxRecDepth 100000 in
set_option maxHeartbeats 4000000 in
theorem record_ValidList_c (T : Nat → Prop) (W0 : World) (hT : ∀ k, T k → k < W0.heap.size) (hLv : LvP T W0) (l_0 : (List RecordD)) (v1 : Value) (hv1 : SlR R_RecordD T W0 v1 l_0) (y : Bool) (hM : record_ValidList l_0 = some y) : Rets Tryd.prog No 43 [v1] W0 (fun v w' => v = .bool y) := by
  refine enter (c := _) Tryd.func43 rfl T 35 Tryd.ntmps43 hT rfl fun a hS => ?_
  replace hS := hS.fact LvF (LvP.dn hLv)
  replace hS := hS.fact (SlF R_RecordD v1 l_0) (SlR.dn hv1)
  unfold record_ValidList at hM
  refine wp_seq_k fun K20 hK20 => ?_
  refine r_list ?_
  refine wl rfl (ky (v := .bool false) hS (y_assign hS rfl) rfl rfl fun a hS => ?_)
  refine wpList_nil ?_
  try simp only [Exit.then, Exit.inBlock, ↓reduceIte, Nat.reduceEqDiff]
  refine hK20 _ _ ?_
  refine seq_j (J := fun a w => St W0 No T 35 [(0, v1)] [] [SlF R_RecordD v1 l_0, LvF] a w ∧ record_ValidList_j1 l_0 = some y) ?_ ?_
  · skip
    refine wp_seq_k fun K33 hK33 => ?_
    refine r_list ?_
    refine wl rfl (ky (v := v1) hS (y_move hS rfl) rfl rfl fun a hS => ?_)
    refine wl rfl (ky (v := .int .i64 (l_0.length : Int)) hS (y_len (R := R_RecordD) (xs := l_0) hS sl51 rfl 0 rfl) rfl rfl fun a hS => ?_)
    refine wl rfl (ky (v := .int .i64 0) hS (y_move hS rfl) rfl rfl fun a hS => ?_)
    refine wpList_nil ?_
    try simp only [Exit.then, Exit.inBlock, ↓reduceIte, Nat.reduceEqDiff]
    refine hK33 _ _ ?_
    refine wp_block ?_
    obtain ⟨r1, hl1, hMo1⟩ := bd hM
    refine wp_lp (fun s : Int => record_ValidList_l3 l_0 s) (fun s a w => ∃ (g606 : Int), g606 = s ∧ St W0 No T 35 [(0, v1), (5, v1), (6, .int .i64 (l_0.length : Int)), (7, .int .i64 g606)] [] [SlF R_RecordD v1 l_0, LvF] a w) hl1 ⟨0, rfl, (hS.meet [] (by decide) ⟨rfl, rfl, rfl, rfl, trivial⟩ trivial ⟨⟨0, rfl⟩, ⟨1, rfl⟩, trivial⟩)⟩ ?_
    rintro s a w f1 ⟨g606, rfl, hS⟩ hM hf1
    have hM : record_ValidList_l3 l_0 g606 = some f1 := hM
    unfold record_ValidList_l3 at hM
    refine wp_seq_k fun K44 hK44 => ?_
    refine r_list ?_
    refine wl rfl (ky (v := .bool (decide ((g606 : Int) < (l_0.length : Int)))) hS (y_int hS rfl rfl rfl) rfl rfl fun a hS => ?_)
    refine wpList_nil ?_
    try simp only [Exit.then, Exit.inBlock, ↓reduceIte, Nat.reduceEqDiff]
    refine hK44 _ _ ?_
    refine wp_seq_k fun K45 hK45 => ?_
    rcases bool2 (decide ((g606 : Int) < (l_0.length : Int))) with hb705 | hb705
    · replace hM := ct hb705 hM
      refine c_t hS rfl hb705 ?_
      refine wp_skip ?_
      try simp only [Exit.then, Exit.inBlock, ↓reduceIte, Nat.reduceEqDiff]
      refine hK45 _ _ ?_
      refine wp_seq_k fun K46 hK46 => ?_
      refine wp_block ?_
      refine wp_seq_k fun K47 hK47 => ?_
      refine r_list ?_
      refine wl rfl (ky (v := .int .i64 g606) hS (y_move hS rfl) rfl rfl fun a hS => ?_)
      obtain ⟨e706, he706, hM⟩ := bd hM
      refine wl rfl (k_index (R := R_RecordD) hS sl51 ty54 rfl rfl 0 rfl he706 rfl fun b708 o709 cs711 hr710 a hS => ?_)
      obtain ⟨v707, rfl, hv707⟩ := hr710
      replace hS := hS.fact (SlF R_KeyD v707 e706.Reads) hv707
      refine wl rfl (ky (v := .agg #[.int .i64 e706.Key.Kind, .string e706.Key.Text, .string e706.Value, v707, .int .i64 e706.Changed, .int .i64 e706.Verified, .int .i64 e706.Cost, .bool e706.Dirty]) hS (y_loadc (k := 0) hS ty54 1 rfl rfl (fun _ h => h.elim) (us := [.int .i64 e706.Key.Kind, .string e706.Key.Text, .string e706.Value, v707, .int .i64 e706.Changed, .int .i64 e706.Verified, .int .i64 e706.Cost, .bool e706.Dirty]) rfl rfl (fun h => by cases h)) rfl rfl fun a hS => ?_)
      refine wl rfl (k_alloc hS ze54 rfl fun b713 hnb715 a w hk hS => ?_)
      refine wl rfl (ky (v := .int .i64 g606) hS (y_assign hS rfl) rfl rfl fun a hS => ?_)
      refine wl rfl (k_store hS rfl rfl (us := [.int .i64 e706.Key.Kind, .string e706.Key.Text, .string e706.Value, v707, .int .i64 e706.Changed, .int .i64 e706.Verified, .int .i64 e706.Cost, .bool e706.Dirty]) rfl ty54 0 rfl rfl rfl (oc rfl (oc rfl (oc rfl (oc (SlR.one ((hS.get 0 rfl) : SlR R_KeyD _ _ _ _)) (oc rfl (oc rfl (oc rfl (oc rfl on)))))))) fun w hk hS => ?_)
      refine wpList_nil ?_
      try simp only [Exit.then, Exit.inBlock, ↓reduceIte, Nat.reduceEqDiff]
      refine hK47 _ _ ?_
      refine seq_j (J := fun a w => ∃ (g772 : Bool), St W0 No T 35 [(0, v1), (5, v1), (6, .int .i64 (l_0.length : Int)), (7, .int .i64 g606), (30, .bool g772)] [] [SlF R_RecordD v1 l_0, LvF] a w ∧ record_ValidList_j2 g606 g772 = some f1) ?_ ?_
      · skip
        refine draws [] hS mixed rfl (fun c a d v w h => by cases d <;> exact h) fun w hQ hS => ?_
        refine dy (l := []) 0 (v := .agg #[.int .i64 e706.Key.Kind, .string e706.Key.Text, .string e706.Value, v707, .int .i64 e706.Changed, .int .i64 e706.Verified, .int .i64 e706.Cost, .bool e706.Dirty]) rfl (by kernel_rfl) (by kernel_rfl) (by kernel_rfl) (by kernel_rfl) hQ hS (y_load hS rfl ty54 0 rfl eo_nil (us := [.int .i64 e706.Key.Kind, .string e706.Key.Text, .string e706.Value, v707, .int .i64 e706.Changed, .int .i64 e706.Verified, .int .i64 e706.Cost, .bool e706.Dirty]) rfl rfl (fun h => by cases h)) rfl rfl rfl fun a hS => ?_
        obtain ⟨u788, hu788, hM⟩ := bd hM
        refine wpE_one (i := 1) rfl (by kernel_rfl) rfl (k_call hS ci48 rfl rfl (record_Valid_c _ _ hS.dlt (hS.get 3 rfl) e706 _ (hS.get 0 rfl) _ hu788) fun _ w hR a hk hA => ⟨stN (hk), ?_⟩)
        have he := Eq.symm hR
        subst he
        have hS := hA [] (fun r hr => by cases hr) List.Pairwise.nil
        refine dy 2 (v := .bool (!(u788))) rfl (by kernel_rfl) (by kernel_rfl) (by kernel_rfl) rfl hQ hS (y_not hS rfl) rfl rfl rfl fun a hS => ?_
        refine dy 3 (v := .bool (!(u788))) rfl (by kernel_rfl) (by kernel_rfl) (by kernel_rfl) rfl hQ hS (y_move hS rfl) rfl rfl rfl fun a hS => ?_
        rcases bool2 (!(u788)) with hb790 | hb790
        · replace hM := ct hb790 hM
          refine dyn 4 rfl (by kernel_rfl) (by kernel_rfl) (by kernel_rfl) hQ hS rfl rfl rfl hb790 rfl rfl fun a hS => ?_
          refine dyn 5 rfl (by kernel_rfl) (by kernel_rfl) (by kernel_rfl) hQ hS rfl rfl rfl hb790 rfl rfl fun a hS => ?_
          refine dyn 6 rfl (by kernel_rfl) (by kernel_rfl) (by kernel_rfl) hQ hS rfl rfl rfl hb790 rfl rfl fun a hS => ?_
          refine dynu 7 rfl (by kernel_rfl) (by kernel_rfl) (by kernel_rfl) hQ hS rfl rfl rfl rfl rfl fun a hS => ?_
          refine dynu 8 rfl (by kernel_rfl) (by kernel_rfl) (by kernel_rfl) hQ hS rfl rfl rfl rfl rfl fun a hS => ?_
          refine dynu 9 rfl (by kernel_rfl) (by kernel_rfl) (by kernel_rfl) hQ hS rfl rfl rfl rfl rfl fun a hS => ?_
          refine dynu 10 rfl (by kernel_rfl) (by kernel_rfl) (by kernel_rfl) hQ hS rfl rfl rfl rfl rfl fun a hS => ?_
          refine dynu 11 rfl (by kernel_rfl) (by kernel_rfl) (by kernel_rfl) hQ hS rfl rfl rfl rfl rfl fun a hS => ?_
          refine dynu 12 rfl (by kernel_rfl) (by kernel_rfl) (by kernel_rfl) hQ hS rfl rfl rfl rfl rfl fun a hS => ?_
          refine dynu 13 rfl (by kernel_rfl) (by kernel_rfl) (by kernel_rfl) hQ hS rfl rfl rfl rfl rfl fun a hS => ?_
          refine dynu 14 rfl (by kernel_rfl) (by kernel_rfl) (by kernel_rfl) hQ hS rfl rfl rfl rfl rfl fun a hS => ?_
          refine dynu 15 rfl (by kernel_rfl) (by kernel_rfl) (by kernel_rfl) hQ hS rfl rfl rfl rfl rfl fun a hS => ?_
          refine dynu 16 rfl (by kernel_rfl) (by kernel_rfl) (by kernel_rfl) hQ hS rfl rfl rfl rfl rfl fun a hS => ?_
          refine dyn 17 rfl (by kernel_rfl) (by kernel_rfl) (by kernel_rfl) hQ hS rfl rfl rfl hb790 rfl rfl fun a hS => ?_
          refine dy 18 (v := .bool true) rfl (by kernel_rfl) (by kernel_rfl) (by kernel_rfl) rfl hQ hS (y_pickt hS rfl hb790 rfl) rfl rfl rfl fun a hS => ?_
          refine wpE_done (by kernel_rfl) ?_ _
          try simp only [Exit.then, Exit.inBlock, ↓reduceIte, Nat.reduceEqDiff]
          exact ⟨true, (hS.meet [] (by decide) ⟨rfl, rfl, rfl, rfl, rfl, trivial⟩ trivial ⟨⟨2, rfl⟩, ⟨3, rfl⟩, trivial⟩), hM⟩
        · replace hM := cf hb790 hM
          refine dyg 4 (v := .int .i64 g606) rfl (by kernel_rfl) (by kernel_rfl) (by kernel_rfl) rfl hQ hS (y_move hS rfl) rfl rfl rfl hb790 rfl rfl fun a hS => ?_
          refine dyg 5 (v := .bool (decide ((0 : Int) < g606))) rfl (by kernel_rfl) (by kernel_rfl) (by kernel_rfl) rfl hQ hS (y_int hS rfl rfl rfl) rfl rfl rfl hb790 rfl rfl fun a hS => ?_
          refine dyg 6 (v := .bool (decide ((0 : Int) < g606))) rfl (by kernel_rfl) (by kernel_rfl) (by kernel_rfl) rfl hQ hS (y_move hS rfl) rfl rfl rfl hb790 rfl rfl fun a hS => ?_
          rcases bool2 (decide ((0 : Int) < g606)) with hb791 | hb791
          · replace hM := ct hb791 hM
            refine dyg 7 (v := v1) rfl (by kernel_rfl) (by kernel_rfl) (by kernel_rfl) rfl hQ hS (y_move hS rfl) rfl rfl rfl hb791 rfl rfl fun a hS => ?_
            refine dyg 8 (v := .int .i64 g606) rfl (by kernel_rfl) (by kernel_rfl) (by kernel_rfl) rfl hQ hS (y_move hS rfl) rfl rfl rfl hb791 rfl rfl fun a hS => ?_
            refine dyg 9 (v := .int .i64 (IntKind.i64.wrap (g606 - 1))) rfl (by kernel_rfl) (by kernel_rfl) (by kernel_rfl) rfl hQ hS (y_int hS rfl rfl rfl) rfl rfl rfl hb791 rfl rfl fun a hS => ?_
            obtain ⟨e792, he792, hM⟩ := bd hM
            obtain ⟨b794, o795, cs797, hr796, hy799, hS⟩ := d_index (R := R_RecordD) hS sl51 ty54 2 rfl he792
            obtain ⟨v793, rfl, hv793⟩ := hr796
            replace hS := hS.fact (SlF R_KeyD v793 e792.Reads) hv793
            refine dyg 10 (v := .pointer (some ⟨b794, o795, none⟩)) rfl (by kernel_rfl) (by kernel_rfl) (by kernel_rfl) rfl hQ hS (hy799 rfl rfl) rfl rfl rfl hb791 rfl rfl fun a hS => ?_
            refine dyg 11 (v := .pointer (some ⟨b794, o795 + 0, none⟩)) rfl (by kernel_rfl) (by kernel_rfl) (by kernel_rfl) rfl hQ hS (y_fld hS rfl fl54_0) rfl rfl rfl hb791 rfl rfl fun a hS => ?_
            refine dyg (l := []) 12 (v := .agg #[.int .i64 e792.Key.Kind, .string e792.Key.Text]) rfl (by kernel_rfl) (by kernel_rfl) (by kernel_rfl) (by kernel_rfl) hQ hS (y_loadc (k := 0) hS ty28 1 rfl rfl es_nil (us := [.int .i64 e792.Key.Kind, .string e792.Key.Text]) rfl rfl (fun h => by cases h)) rfl rfl rfl hb791 rfl rfl fun a hS => ?_
            refine dyg 13 (v := .pointer (some ⟨b713, 0 + 0, none⟩)) rfl (by kernel_rfl) (by kernel_rfl) (by kernel_rfl) rfl hQ hS (y_fld hS rfl fl54_0) rfl rfl rfl hb791 rfl rfl fun a hS => ?_
            refine dyg (l := []) 14 (v := .agg #[.int .i64 e706.Key.Kind, .string e706.Key.Text]) rfl (by kernel_rfl) (by kernel_rfl) (by kernel_rfl) (by kernel_rfl) hQ hS (y_load hS rfl ty28 0 rfl eo_nil (us := [.int .i64 e706.Key.Kind, .string e706.Key.Text]) rfl rfl (fun h => by cases h)) rfl rfl rfl hb791 rfl rfl fun a hS => ?_
            obtain ⟨u800, hu800, hM⟩ := bd hM
            refine wpE_oneg (i := 15) rfl (by kernel_rfl) hS rfl rfl rfl hb791 (k_call hS ci57 rfl rfl (key_Cmp_c _ _ hS.dlt (hS.get 5 rfl) e792.Key e706.Key _ hu800) fun _ w hR a hk hA => ⟨stN (hk), ?_⟩)
            have he := Eq.symm hR
            subst he
            have hS := hA [] (fun r hr => by cases hr) List.Pairwise.nil
            refine dyg 16 (v := .bool (decide ((0 : Int) ≤ u800))) rfl (by kernel_rfl) (by kernel_rfl) (by kernel_rfl) rfl hQ hS (y_int hS rfl rfl rfl) rfl rfl rfl hb791 rfl rfl fun a hS => ?_
            refine dyg 17 (v := .bool (decide ((0 : Int) ≤ u800))) rfl (by kernel_rfl) (by kernel_rfl) (by kernel_rfl) rfl hQ hS (y_pickt hS rfl hb791 rfl) rfl rfl rfl hb790 rfl rfl fun a hS => ?_
            refine dy 18 (v := .bool (decide ((0 : Int) ≤ u800))) rfl (by kernel_rfl) (by kernel_rfl) (by kernel_rfl) rfl hQ hS (y_pickf hS rfl hb790 rfl) rfl rfl rfl fun a hS => ?_
            refine wpE_done (by kernel_rfl) ?_ _
            try simp only [Exit.then, Exit.inBlock, ↓reduceIte, Nat.reduceEqDiff]
            exact ⟨(decide ((0 : Int) ≤ u800)), (hS.meet [] (by decide) ⟨rfl, rfl, rfl, rfl, rfl, trivial⟩ trivial ⟨⟨4, rfl⟩, ⟨5, rfl⟩, trivial⟩), hM⟩
          · replace hM := cf hb791 hM
            refine dyn 7 rfl (by kernel_rfl) (by kernel_rfl) (by kernel_rfl) hQ hS rfl rfl rfl hb791 rfl rfl fun a hS => ?_
            refine dyn 8 rfl (by kernel_rfl) (by kernel_rfl) (by kernel_rfl) hQ hS rfl rfl rfl hb791 rfl rfl fun a hS => ?_
            refine dyn 9 rfl (by kernel_rfl) (by kernel_rfl) (by kernel_rfl) hQ hS rfl rfl rfl hb791 rfl rfl fun a hS => ?_
            refine dyn 10 rfl (by kernel_rfl) (by kernel_rfl) (by kernel_rfl) hQ hS rfl rfl rfl hb791 rfl rfl fun a hS => ?_
            refine dyn 11 rfl (by kernel_rfl) (by kernel_rfl) (by kernel_rfl) hQ hS rfl rfl rfl hb791 rfl rfl fun a hS => ?_
            refine dyn 12 rfl (by kernel_rfl) (by kernel_rfl) (by kernel_rfl) hQ hS rfl rfl rfl hb791 rfl rfl fun a hS => ?_
            refine dyn 13 rfl (by kernel_rfl) (by kernel_rfl) (by kernel_rfl) hQ hS rfl rfl rfl hb791 rfl rfl fun a hS => ?_
            refine dyn 14 rfl (by kernel_rfl) (by kernel_rfl) (by kernel_rfl) hQ hS rfl rfl rfl hb791 rfl rfl fun a hS => ?_
            refine dyn 15 rfl (by kernel_rfl) (by kernel_rfl) (by kernel_rfl) hQ hS rfl rfl rfl hb791 rfl rfl fun a hS => ?_
            refine dyn 16 rfl (by kernel_rfl) (by kernel_rfl) (by kernel_rfl) hQ hS rfl rfl rfl hb791 rfl rfl fun a hS => ?_
            refine dyg 17 (v := .bool false) rfl (by kernel_rfl) (by kernel_rfl) (by kernel_rfl) rfl hQ hS (y_pickf hS rfl hb791 rfl) rfl rfl rfl hb790 rfl rfl fun a hS => ?_
            refine dy 18 (v := .bool false) rfl (by kernel_rfl) (by kernel_rfl) (by kernel_rfl) rfl hQ hS (y_pickf hS rfl hb790 rfl) rfl rfl rfl fun a hS => ?_
            refine wpE_done (by kernel_rfl) ?_ _
            try simp only [Exit.then, Exit.inBlock, ↓reduceIte, Nat.reduceEqDiff]
            exact ⟨false, (hS.meet [] (by decide) ⟨rfl, rfl, rfl, rfl, rfl, trivial⟩ trivial ⟨⟨2, rfl⟩, ⟨3, rfl⟩, trivial⟩), hM⟩
      · rintro a w ⟨g772, hS, hM⟩
        unfold record_ValidList_j2 at hM
        rcases bool2 (g772) with hb773 | hb773
        · replace hM := ct hb773 hM
          refine c_t hS rfl hb773 ?_
          refine wp_seq_k fun K48 hK48 => ?_
          refine r_list ?_
          refine wl rfl (ky (v := .bool false) hS (y_assign hS rfl) rfl rfl fun a hS => ?_)
          refine wpList_nil ?_
          try simp only [Exit.then, Exit.inBlock, ↓reduceIte, Nat.reduceEqDiff]
          refine hK48 _ _ ?_
          refine wp_ret ?_
          injection hM with hM
          subst hM
          have hr := hf1 _ rfl
          subst hr
          replace hMo1 := el_out hMo1
          have hM := hMo1
          injection hM with hM
          subst hM
          try simp only [Exit.then, Exit.inBlock, ↓reduceIte, Nat.reduceEqDiff]
          refine ret_ok hS Tryd.results43 (res_tmp hS rfl res_nil) ?_
          exact rfl
        · replace hM := cf hb773 hM
          refine c_f hS rfl hb773 ?_
          refine wp_skip ?_
          try simp only [Exit.then, Exit.inBlock, ↓reduceIte, Nat.reduceEqDiff]
          refine hK46 _ _ ?_
          refine r_list ?_
          refine wl rfl (ky (v := .int .i64 (IntKind.i64.wrap (g606 + 1))) hS (y_int hS rfl rfl rfl) rfl rfl fun a hS => ?_)
          refine wl rfl (ky (v := .int .i64 (IntKind.i64.wrap (g606 + 1))) hS (y_move hS rfl) rfl rfl fun a hS => ?_)
          refine wpList_nil ?_
          try simp only [Exit.then, Exit.inBlock, ↓reduceIte, Nat.reduceEqDiff]
          exact ⟨IntKind.i64.wrap (g606 + 1), (Option.some.inj hM).symm, (IntKind.i64.wrap (g606 + 1)), rfl, (hS.meet [] (by decide) ⟨rfl, rfl, rfl, rfl, trivial⟩ trivial ⟨⟨0, rfl⟩, ⟨1, rfl⟩, trivial⟩)⟩
    · replace hM := cf hb705 hM
      refine c_f hS rfl hb705 ?_
      refine wp_exit ?_
      try simp only [Exit.then, Exit.inBlock, ↓reduceIte, Nat.reduceEqDiff]
      injection hM with hM
      subst hM
      have hr := hf1 _ rfl
      subst hr
      replace hMo1 := el_go hMo1
      have hM : record_ValidList_j1 l_0 = some y := hMo1
      exact ⟨(hS.meet [] (by decide) ⟨rfl, trivial⟩ trivial ⟨⟨0, rfl⟩, ⟨1, rfl⟩, trivial⟩), hM⟩
  · rintro a w ⟨hS, hM⟩
    unfold record_ValidList_j1 at hM
    refine wp_seq_k fun K32 hK32 => ?_
    refine r_list ?_
    refine wl rfl (ky (v := v1) hS (y_move hS rfl) rfl rfl fun a hS => ?_)
    refine wl rfl (ky (v := .int .i64 (l_0.length : Int)) hS (y_len (R := R_RecordD) (xs := l_0) hS sl51 rfl 0 rfl) rfl rfl fun a hS => ?_)
    refine wl rfl (ky (v := .bool (decide (((l_0.length : Int) : Int) ≤ 4000))) hS (y_int hS rfl rfl rfl) rfl rfl fun a hS => ?_)
    refine wl rfl (ky (v := .bool (decide (((l_0.length : Int) : Int) ≤ 4000))) hS (y_assign hS rfl) rfl rfl fun a hS => ?_)
    refine wpList_nil ?_
    try simp only [Exit.then, Exit.inBlock, ↓reduceIte, Nat.reduceEqDiff]
    refine hK32 _ _ ?_
    refine wp_ret ?_
    injection hM with hM
    subst hM
    try simp only [Exit.then, Exit.inBlock, ↓reduceIte, Nat.reduceEqDiff]
    refine ret_ok hS Tryd.results43 (res_tmp hS rfl res_nil) ?_
    exact rfl

noncomputable def index_Key_j1 : Option Int := some ((-1))
noncomputable def index_Key_l2 (s_0 : (List KeyD)) (v_1 : KeyD) (g173 : Int) : Option (Fl (Int) (Fl (Unit) Int)) := cond (decide ((g173 : Int) < (s_0.length : Int))) ((getI s_0 g173).bind fun e227 => cond ((v_1.Kind : Int) == e227.Kind && v_1.Text.toList == e227.Text.toList) (some (.out (.out g173))) (some (.go (IntKind.i64.wrap (g173 + 1))))) (some (.out (.go ())))
noncomputable def index_Key (s_0 : (List KeyD)) (v_1 : KeyD) : Option Int := (loop (fun s : Int => index_Key_l2 s_0 v_1 s) 0).bind fun r => Fl.el r (fun s => index_Key_j1) (fun y => some (y))
set_option maxRecDepth 100000 in
set_option maxHeartbeats 4000000 in
theorem index_Key_c (T : Nat → Prop) (W0 : World) (hT : ∀ k, T k → k < W0.heap.size) (s_0 : (List KeyD)) (v_1 : KeyD) (v1 : Value) (hv1 : SlR R_KeyD T W0 v1 s_0) (y : Int) (hM : index_Key s_0 v_1 = some y) : Rets Tryd.prog No 105 [v1, .agg #[.int .i64 v_1.Kind, .string v_1.Text]] W0 (fun v w' => v = .int .i64 y) := by
  refine enter (c := _) Tryd.func105 rfl T 19 Tryd.ntmps105 hT rfl fun a hS => ?_
  replace hS := hS.fact (SlF R_KeyD v1 s_0) (SlR.dn hv1)
  unfold index_Key at hM
  refine wp_seq_k fun K17 hK17 => ?_
  refine r_list ?_
  refine wl rfl (k_box hS rfl (cs := [.int .i64 v_1.Kind, .string v_1.Text]) rfl rfl fun b76 hnb78 a w hk hS => ?_)
  refine wl rfl (ky (v := .int .i64 0) hS (y_assign hS rfl) rfl rfl fun a hS => ?_)
  refine wpList_nil ?_
  try simp only [Exit.then, Exit.inBlock, ↓reduceIte, Nat.reduceEqDiff]
  refine hK17 _ _ ?_
  refine seq_j (J := fun a w => St W0 No T 19 [] [] [] a w ∧ index_Key_j1 = some y) ?_ ?_
  · skip
    refine wp_seq_k fun K32 hK32 => ?_
    refine r_list ?_
    refine wl rfl (ky (v := v1) hS (y_move hS rfl) rfl rfl fun a hS => ?_)
    refine wl rfl (ky (v := .int .i64 (s_0.length : Int)) hS (y_len (R := R_KeyD) (xs := s_0) hS sl22 rfl 0 rfl) rfl rfl fun a hS => ?_)
    refine wl rfl (ky (v := .int .i64 0) hS (y_move hS rfl) rfl rfl fun a hS => ?_)
    refine wpList_nil ?_
    try simp only [Exit.then, Exit.inBlock, ↓reduceIte, Nat.reduceEqDiff]
    refine hK32 _ _ ?_
    refine wp_block ?_
    obtain ⟨r1, hl1, hMo1⟩ := bd hM
    refine wp_lp (fun s : Int => index_Key_l2 s_0 v_1 s) (fun s a w => ∃ (g173 : Int), g173 = s ∧ St W0 No T 19 [(0, v1), (3, .pointer (some ⟨b76, 0, none⟩)), (7, .int .i64 (s_0.length : Int)), (8, .int .i64 g173)] [.box b76 [.int .i64 v_1.Kind, .string v_1.Text] 28] [SlF R_KeyD v1 s_0] a w) hl1 ⟨0, rfl, (hS.meet [0] (by decide) ⟨rfl, rfl, rfl, rfl, trivial⟩ ⟨rfl, trivial⟩ ⟨⟨0, rfl⟩, trivial⟩)⟩ ?_
    rintro s a w f1 ⟨g173, rfl, hS⟩ hM hf1
    have hM : index_Key_l2 s_0 v_1 g173 = some f1 := hM
    unfold index_Key_l2 at hM
    refine wp_seq_k fun K45 hK45 => ?_
    refine r_list ?_
    refine wl rfl (ky (v := .bool (decide ((g173 : Int) < (s_0.length : Int)))) hS (y_int hS rfl rfl rfl) rfl rfl fun a hS => ?_)
    refine wpList_nil ?_
    try simp only [Exit.then, Exit.inBlock, ↓reduceIte, Nat.reduceEqDiff]
    refine hK45 _ _ ?_
    refine wp_seq_k fun K46 hK46 => ?_
    rcases bool2 (decide ((g173 : Int) < (s_0.length : Int))) with hb205 | hb205
    · replace hM := ct hb205 hM
      refine c_t hS rfl hb205 ?_
      refine wp_skip ?_
      try simp only [Exit.then, Exit.inBlock, ↓reduceIte, Nat.reduceEqDiff]
      refine hK46 _ _ ?_
      refine wp_seq_k fun K47 hK47 => ?_
      refine wp_block ?_
      refine wp_seq_k fun K48 hK48 => ?_
      refine r_list ?_
      refine wl rfl (ky (v := .int .i64 g173) hS (y_move hS rfl) rfl rfl fun a hS => ?_)
      refine wl rfl (ky (v := .int .i64 g173) hS (y_assign hS rfl) rfl rfl fun a hS => ?_)
      refine wpList_nil ?_
      try simp only [Exit.then, Exit.inBlock, ↓reduceIte, Nat.reduceEqDiff]
      refine hK48 _ _ ?_
      refine wp_seq_k fun K49 hK49 => ?_
      refine draws [] hS mixed rfl (fun c a d v w h => by cases d <;> exact h) fun w hQ hS => ?_
      refine dy (l := []) 0 (v := .agg #[.int .i64 v_1.Kind, .string v_1.Text]) rfl (by kernel_rfl) (by kernel_rfl) (by kernel_rfl) (by kernel_rfl) hQ hS (y_load hS rfl ty28 0 rfl eo_nil (us := [.int .i64 v_1.Kind, .string v_1.Text]) rfl rfl (fun h => by cases h)) rfl rfl rfl fun a hS => ?_
      refine dy 1 (v := v1) rfl (by kernel_rfl) (by kernel_rfl) (by kernel_rfl) rfl hQ hS (y_move hS rfl) rfl rfl rfl fun a hS => ?_
      refine dy 2 (v := .int .i64 g173) rfl (by kernel_rfl) (by kernel_rfl) (by kernel_rfl) rfl hQ hS (y_move hS rfl) rfl rfl rfl fun a hS => ?_
      obtain ⟨e227, he227, hM⟩ := bd hM
      obtain ⟨b228, o229, cs231, hr230, hy233, hS⟩ := d_index (R := R_KeyD) hS sl22 ty28 0 rfl he227
      obtain rfl := hr230
      refine dy 3 (v := .pointer (some ⟨b228, o229, none⟩)) rfl (by kernel_rfl) (by kernel_rfl) (by kernel_rfl) rfl hQ hS (hy233 rfl rfl) rfl rfl rfl fun a hS => ?_
      refine dy (l := []) 4 (v := .agg #[.int .i64 e227.Kind, .string e227.Text]) rfl (by kernel_rfl) (by kernel_rfl) (by kernel_rfl) (by kernel_rfl) hQ hS (y_loadc (k := 0) hS ty28 0 rfl rfl es_nil (us := [.int .i64 e227.Kind, .string e227.Text]) rfl rfl (fun h => by cases h)) rfl rfl rfl fun a hS => ?_
      refine dy 5 (v := .bool ((v_1.Kind : Int) == e227.Kind && v_1.Text.toList == e227.Text.toList)) rfl (by kernel_rfl) (by kernel_rfl) (by kernel_rfl) rfl hQ hS (eq28 hS rfl rfl) rfl rfl rfl fun a hS => ?_
      refine wpE_done (by kernel_rfl) ?_ _
      try simp only [Exit.then, Exit.inBlock, ↓reduceIte, Nat.reduceEqDiff]
      refine hK49 _ _ ?_
      rcases bool2 ((v_1.Kind : Int) == e227.Kind && v_1.Text.toList == e227.Text.toList) with hb234 | hb234
      · replace hM := ct hb234 hM
        refine c_t hS rfl hb234 ?_
        refine wp_seq_k fun K50 hK50 => ?_
        refine r_list ?_
        refine wl rfl (ky (v := .int .i64 g173) hS (y_move hS rfl) rfl rfl fun a hS => ?_)
        refine wl rfl (ky (v := .int .i64 g173) hS (y_assign hS rfl) rfl rfl fun a hS => ?_)
        refine wpList_nil ?_
        try simp only [Exit.then, Exit.inBlock, ↓reduceIte, Nat.reduceEqDiff]
        refine hK50 _ _ ?_
        refine wp_ret ?_
        injection hM with hM
        subst hM
        have hr := hf1 _ rfl
        subst hr
        replace hMo1 := el_out hMo1
        have hM := hMo1
        injection hM with hM
        subst hM
        try simp only [Exit.then, Exit.inBlock, ↓reduceIte, Nat.reduceEqDiff]
        refine ret_ok hS Tryd.results105 (res_tmp hS rfl res_nil) ?_
        exact rfl
      · replace hM := cf hb234 hM
        refine c_f hS rfl hb234 ?_
        refine wp_skip ?_
        try simp only [Exit.then, Exit.inBlock, ↓reduceIte, Nat.reduceEqDiff]
        refine hK47 _ _ ?_
        refine r_list ?_
        refine wl rfl (ky (v := .int .i64 (IntKind.i64.wrap (g173 + 1))) hS (y_int hS rfl rfl rfl) rfl rfl fun a hS => ?_)
        refine wl rfl (ky (v := .int .i64 (IntKind.i64.wrap (g173 + 1))) hS (y_move hS rfl) rfl rfl fun a hS => ?_)
        refine wpList_nil ?_
        try simp only [Exit.then, Exit.inBlock, ↓reduceIte, Nat.reduceEqDiff]
        exact ⟨IntKind.i64.wrap (g173 + 1), (Option.some.inj hM).symm, (IntKind.i64.wrap (g173 + 1)), rfl, (hS.meet [0] (by decide) ⟨rfl, rfl, rfl, rfl, trivial⟩ ⟨rfl, trivial⟩ ⟨⟨1, rfl⟩, trivial⟩)⟩
    · replace hM := cf hb205 hM
      refine c_f hS rfl hb205 ?_
      refine wp_exit ?_
      try simp only [Exit.then, Exit.inBlock, ↓reduceIte, Nat.reduceEqDiff]
      injection hM with hM
      subst hM
      have hr := hf1 _ rfl
      subst hr
      replace hMo1 := el_go hMo1
      have hM : index_Key_j1 = some y := hMo1
      exact ⟨(hS.meet [] (by decide) trivial trivial trivial), hM⟩
  · rintro a w ⟨hS, hM⟩
    unfold index_Key_j1 at hM
    refine wp_seq_k fun K31 hK31 => ?_
    refine r_list ?_
    refine wl rfl (ky (v := .int .i64 (-1)) hS (y_assign hS rfl) rfl rfl fun a hS => ?_)
    refine wpList_nil ?_
    try simp only [Exit.then, Exit.inBlock, ↓reduceIte, Nat.reduceEqDiff]
    refine hK31 _ _ ?_
    refine wp_ret ?_
    injection hM with hM
    subst hM
    try simp only [Exit.then, Exit.inBlock, ↓reduceIte, Nat.reduceEqDiff]
    refine ret_ok hS Tryd.results105 (res_tmp hS rfl res_nil) ?_
    exact rfl

noncomputable def contains_Key (s_0 : (List KeyD)) (v_1 : KeyD) : Option Bool := (index_Key s_0 v_1).bind fun u9 => some (decide ((0 : Int) ≤ u9))
set_option maxRecDepth 100000 in
set_option maxHeartbeats 4000000 in
theorem contains_Key_c (T : Nat → Prop) (W0 : World) (hT : ∀ k, T k → k < W0.heap.size) (s_0 : (List KeyD)) (v_1 : KeyD) (v1 : Value) (hv1 : SlR R_KeyD T W0 v1 s_0) (y : Bool) (hM : contains_Key s_0 v_1 = some y) : Rets Tryd.prog No 84 [v1, .agg #[.int .i64 v_1.Kind, .string v_1.Text]] W0 (fun v w' => v = .bool y) := by
  refine enter (c := _) Tryd.func84 rfl T 9 Tryd.ntmps84 hT rfl fun a hS => ?_
  replace hS := hS.fact (SlF R_KeyD v1 s_0) (SlR.dn hv1)
  unfold contains_Key at hM
  refine wp_seq_k fun K3 hK3 => ?_
  refine r_list ?_
  refine wl rfl (k_box hS rfl (cs := [.int .i64 v_1.Kind, .string v_1.Text]) rfl rfl fun b6 hnb8 a w hk hS => ?_)
  refine wl rfl (ky (v := .bool false) hS (y_assign hS rfl) rfl rfl fun a hS => ?_)
  refine wpList_nil ?_
  try simp only [Exit.then, Exit.inBlock, ↓reduceIte, Nat.reduceEqDiff]
  refine hK3 _ _ ?_
  refine wp_seq_k fun K4 hK4 => ?_
  refine r_list ?_
  refine wl rfl (ky (v := v1) hS (y_move hS rfl) rfl rfl fun a hS => ?_)
  refine wl rfl (ky (v := .agg #[.int .i64 v_1.Kind, .string v_1.Text]) hS (y_load hS rfl ty28 0 rfl id (us := [.int .i64 v_1.Kind, .string v_1.Text]) rfl rfl (fun h => by cases h)) rfl rfl fun a hS => ?_)
  obtain ⟨u9, hu9, hM⟩ := bd hM
  refine wl rfl (k_call hS ci105 rfl rfl (index_Key_c _ _ hS.dlt s_0 v_1 _ (hS.get 0 rfl) _ hu9) fun _ w hR a hk hA => ?_)
  have he := Eq.symm hR
  subst he
  have hS := hA [] (fun r hr => by cases hr) List.Pairwise.nil
  refine wl rfl (ky (v := .bool (decide ((0 : Int) ≤ u9))) hS (y_int hS rfl rfl rfl) rfl rfl fun a hS => ?_)
  refine wl rfl (ky (v := .bool (decide ((0 : Int) ≤ u9))) hS (y_assign hS rfl) rfl rfl fun a hS => ?_)
  refine wpList_nil ?_
  try simp only [Exit.then, Exit.inBlock, ↓reduceIte, Nat.reduceEqDiff]
  refine hK4 _ _ ?_
  refine wp_ret ?_
  injection hM with hM
  subst hM
  try simp only [Exit.then, Exit.inBlock, ↓reduceIte, Nat.reduceEqDiff]
  refine ret_ok hS Tryd.results84 (res_tmp hS rfl res_nil) ?_
  exact rfl

noncomputable def record_Readers_j1 (out335 : (List KeyD)) : Option (List KeyD) := some (out335)
noncomputable def record_Readers_j2 (g394 : Int) (out464 : (List KeyD)) : Option (Fl ((List KeyD) × Int) ((List KeyD))) := some (.go (out464, IntKind.i64.wrap (g394 + 1)))
noncomputable def record_Readers_l3 (l_0 : (List RecordD)) (k_1 : KeyD) (out390 : (List KeyD)) (g394 : Int) : Option (Fl ((List KeyD) × Int) ((List KeyD))) := cond (decide ((g394 : Int) < (l_0.length : Int))) ((getI l_0 g394).bind fun e468 => (contains_Key e468.Reads k_1).bind fun u478 => cond u478 (gd (roomB (out390.length + ([e468.Key]).length)) <| record_Readers_j2 g394 (out390 ++ ([e468.Key]))) (record_Readers_j2 g394 out390)) (some (.out out390))
noncomputable def record_Readers (l_0 : (List RecordD)) (k_1 : KeyD) : Option (List KeyD) := (loop (fun s : (List KeyD) × Int => record_Readers_l3 l_0 k_1 s.1 s.2) (([] : List KeyD), 0)).bind fun r => record_Readers_j1 r
set_option maxRecDepth 100000 in
set_option maxHeartbeats 4000000 in
theorem record_Readers_c (T : Nat → Prop) (W0 : World) (hT : ∀ k, T k → k < W0.heap.size) (l_0 : (List RecordD)) (k_1 : KeyD) (v1 : Value) (hv1 : SlR R_RecordD T W0 v1 l_0) (y : (List KeyD)) (hM : record_Readers l_0 k_1 = some y) : Rets Tryd.prog No 46 [v1, .agg #[.int .i64 k_1.Kind, .string k_1.Text]] W0 (fun v w' => ∃ (v2 : Value) (cl3 : List Value), v = v2 ∧ OwnR R_KeyD T W0 w' [.own v2 28 R_KeyD.size cl3] 28 v2 cl3 y) := by
  refine enter (c := _) Tryd.func46 rfl T 25 Tryd.ntmps46 hT rfl fun a hS => ?_
  replace hS := hS.fact (SlF R_RecordD v1 l_0) (SlR.dn hv1)
  unfold record_Readers at hM
  refine wp_seq_k fun K30 hK30 => ?_
  refine r_list ?_
  refine wl rfl (k_box hS rfl (cs := [.int .i64 k_1.Kind, .string k_1.Text]) rfl rfl fun b228 hnb230 a w hk hS => ?_)
  refine wl rfl (ky (v := .slice none 0 0) hS (y_assign hS rfl) rfl rfl fun a hS => ?_)
  refine wpList_nil ?_
  try simp only [Exit.then, Exit.inBlock, ↓reduceIte, Nat.reduceEqDiff]
  refine hK30 _ _ ?_
  refine wp_seq_k fun K31 hK31 => ?_
  refine r_list ?_
  refine wl rfl (ky (v := .slice none 0 0) hS (y_assign hS rfl) rfl rfl fun a hS => ?_)
  refine wpList_nil ?_
  try simp only [Exit.then, Exit.inBlock, ↓reduceIte, Nat.reduceEqDiff]
  refine hK31 _ _ ?_
  refine seq_j (J := fun a w => ∃ (out335 : (List KeyD)) (v336 : Value) (cl337 : (List Value)), St W0 No T 25 [(5, v336)] [.own v336 28 R_KeyD.size cl337] [RowsF R_KeyD cl337 out335] a w ∧ record_Readers_j1 out335 = some y) ?_ ?_
  · skip
    refine wp_seq_k fun K46 hK46 => ?_
    refine r_list ?_
    refine wl rfl (ky (v := v1) hS (y_move hS rfl) rfl rfl fun a hS => ?_)
    refine wl rfl (ky (v := .int .i64 (l_0.length : Int)) hS (y_len (R := R_RecordD) (xs := l_0) hS sl51 rfl 0 rfl) rfl rfl fun a hS => ?_)
    refine wl rfl (ky (v := .int .i64 0) hS (y_move hS rfl) rfl rfl fun a hS => ?_)
    refine wpList_nil ?_
    try simp only [Exit.then, Exit.inBlock, ↓reduceIte, Nat.reduceEqDiff]
    refine hK46 _ _ ?_
    refine wp_block ?_
    replace hS := hS.nilRow R_KeyD 28 (by decide)
    obtain ⟨r1, hl1, hMo1⟩ := bd hM
    refine wp_lp (fun s : (List KeyD) × Int => record_Readers_l3 l_0 k_1 s.1 s.2) (fun s a w => ∃ (out390 : (List KeyD)) (g394 : Int) (v391 : Value) (cl392 : (List Value)), (out390, g394) = s ∧ St W0 No T 25 [(3, .pointer (some ⟨b228, 0, none⟩)), (5, v391), (8, v1), (9, .int .i64 (l_0.length : Int)), (10, .int .i64 g394)] [.own v391 28 R_KeyD.size cl392, .box b228 [.int .i64 k_1.Kind, .string k_1.Text] 28] [RowsF R_KeyD cl392 out390, SlF R_RecordD v1 l_0] a w) hl1 ⟨([] : List KeyD), 0, (.slice none 0 0), ([]), rfl, (hS.meet [0, 1] (by decide) ⟨rfl, rfl, rfl, rfl, rfl, trivial⟩ ⟨rfl, rfl, trivial⟩ ⟨⟨0, rfl⟩, ⟨1, rfl⟩, trivial⟩)⟩ ?_
    rintro s a w f1 ⟨out390, g394, v391, cl392, rfl, hS⟩ hM hf1
    have hM : record_Readers_l3 l_0 k_1 out390 g394 = some f1 := hM
    unfold record_Readers_l3 at hM
    refine wp_seq_k fun K59 hK59 => ?_
    refine r_list ?_
    refine wl rfl (ky (v := .bool (decide ((g394 : Int) < (l_0.length : Int)))) hS (y_int hS rfl rfl rfl) rfl rfl fun a hS => ?_)
    refine wpList_nil ?_
    try simp only [Exit.then, Exit.inBlock, ↓reduceIte, Nat.reduceEqDiff]
    refine hK59 _ _ ?_
    refine wp_seq_k fun K60 hK60 => ?_
    rcases bool2 (decide ((g394 : Int) < (l_0.length : Int))) with hb444 | hb444
    · replace hM := ct hb444 hM
      refine c_t hS rfl hb444 ?_
      refine wp_skip ?_
      try simp only [Exit.then, Exit.inBlock, ↓reduceIte, Nat.reduceEqDiff]
      refine hK60 _ _ ?_
      refine seq_j (J := fun a w => ∃ (out464 : (List KeyD)) (v465 : Value) (cl466 : (List Value)), St W0 No T 25 [(3, .pointer (some ⟨b228, 0, none⟩)), (5, v465), (8, v1), (9, .int .i64 (l_0.length : Int)), (10, .int .i64 g394)] [.own v465 28 R_KeyD.size cl466, .box b228 [.int .i64 k_1.Kind, .string k_1.Text] 28] [RowsF R_KeyD cl466 out464, SlF R_RecordD v1 l_0] a w ∧ record_Readers_j2 g394 out464 = some f1) ?_ ?_
      · skip
        refine wp_block ?_
        refine wp_seq_k fun K63 hK63 => ?_
        refine r_list ?_
        obtain ⟨e468, he468, hM⟩ := bd hM
        refine wl rfl (k_index (R := R_RecordD) hS sl51 ty54 rfl rfl 1 rfl he468 rfl fun b470 o471 cs473 hr472 a hS => ?_)
        obtain ⟨v469, rfl, hv469⟩ := hr472
        replace hS := hS.fact (SlF R_KeyD v469 e468.Reads) hv469
        refine wl rfl (ky (v := .agg #[.int .i64 e468.Key.Kind, .string e468.Key.Text, .string e468.Value, v469, .int .i64 e468.Changed, .int .i64 e468.Verified, .int .i64 e468.Cost, .bool e468.Dirty]) hS (y_loadc (k := 0) hS ty54 1 rfl rfl (fun _ h => h.elim) (us := [.int .i64 e468.Key.Kind, .string e468.Key.Text, .string e468.Value, v469, .int .i64 e468.Changed, .int .i64 e468.Verified, .int .i64 e468.Cost, .bool e468.Dirty]) rfl rfl (fun h => by cases h)) rfl rfl fun a hS => ?_)
        refine wl rfl (k_alloc hS ze54 rfl fun b475 hnb477 a w hk hS => ?_)
        refine wl rfl (k_store hS rfl rfl (us := [.int .i64 e468.Key.Kind, .string e468.Key.Text, .string e468.Value, v469, .int .i64 e468.Changed, .int .i64 e468.Verified, .int .i64 e468.Cost, .bool e468.Dirty]) rfl ty54 0 rfl rfl rfl (oc rfl (oc rfl (oc rfl (oc (SlR.one ((hS.get 0 rfl) : SlR R_KeyD _ _ _ _)) (oc rfl (oc rfl (oc rfl (oc rfl on)))))))) fun w hk hS => ?_)
        refine wpList_nil ?_
        try simp only [Exit.then, Exit.inBlock, ↓reduceIte, Nat.reduceEqDiff]
        refine hK63 _ _ ?_
        refine wp_seq_k fun K64 hK64 => ?_
        refine r_list ?_
        refine wl rfl (ky (v := .pointer (some ⟨b475, 0 + 3, none⟩)) hS (y_fld hS rfl fl54_2) rfl rfl fun a hS => ?_)
        refine wl rfl (ky (v := v469) hS (y_load hS rfl ty22 0 rfl id (us := [v469]) rfl rfl (fun _ => rfl)) rfl rfl fun a hS => ?_)
        refine wl rfl (ky (v := .agg #[.int .i64 k_1.Kind, .string k_1.Text]) hS (y_load hS rfl ty28 2 rfl id (us := [.int .i64 k_1.Kind, .string k_1.Text]) rfl rfl (fun h => by cases h)) rfl rfl fun a hS => ?_)
        obtain ⟨u478, hu478, hM⟩ := bd hM
        refine wl rfl (k_call hS ci84 rfl rfl (contains_Key_c _ _ hS.dlt e468.Reads k_1 _ (hS.get 0 rfl) _ hu478) fun _ w hR a hk hA => ?_)
        have he := Eq.symm hR
        subst he
        have hS := hA [] (fun r hr => by cases hr) List.Pairwise.nil
        refine wpList_nil ?_
        try simp only [Exit.then, Exit.inBlock, ↓reduceIte, Nat.reduceEqDiff]
        refine hK64 _ _ ?_
        rcases bool2 (u478) with hb480 | hb480
        · replace hM := ct hb480 hM
          refine c_t hS rfl hb480 ?_
          refine r_list ?_
          refine wl rfl (ky (v := v391) hS (y_move hS rfl) rfl rfl fun a hS => ?_)
          refine wl rfl (ky (v := .pointer (some ⟨b475, 0 + 0, none⟩)) hS (y_fld hS rfl fl54_0) rfl rfl fun a hS => ?_)
          refine wl rfl (ky (v := .agg #[.int .i64 e468.Key.Kind, .string e468.Key.Text]) hS (y_load hS rfl ty28 0 rfl id (us := [.int .i64 e468.Key.Kind, .string e468.Key.Text]) rfl rfl (fun h => by cases h)) rfl rfl fun a hS => ?_)
          refine wl rfl (k_bslice (ps := [(0, .tmp 20)]) hS el22 ze28 (zl := [.int .i64 0, .string (ByteArray.mk #[])]) (by kernel_rfl) rfl (us := [[.int .i64 e468.Key.Kind, .string e468.Key.Text]]) ⟨rfl, trivial⟩ (ws := [.int .i64 e468.Key.Kind, .string e468.Key.Text]) rfl rfl rfl rfl fun b481 a w hk hS => ?_)
          replace hS := hS.lit (R := R_KeyD) (us := [.int .i64 e468.Key.Kind, .string e468.Key.Text]) (xs := [e468.Key]) 0 rfl (by decide) (RowsOk.one_ (R := R_KeyD) (x := e468.Key) rfl) rfl rfl
          replace hS := hS.freeze (R := R_KeyD) 0 rfl 0 rfl
          obtain ⟨hg483, hM⟩ := gd_some hM
          refine wl rfl (k_apps (R := R_KeyD) (xs := out390) (ys := [e468.Key]) hS el22 (by decide) (by decide) rfl rfl 1 rfl 4 rfl 0 rfl hg483 rfl fun v484 cl485 a w hk hS => ?_)
          refine wl rfl (ky (v := v484) hS (y_assign hS rfl) rfl rfl fun a hS => ?_)
          refine wpList_nil ?_
          try simp only [Exit.then, Exit.inBlock, ↓reduceIte, Nat.reduceEqDiff]
          exact ⟨(out390 ++ ([e468.Key])), v484, cl485, (hS.meet [1, 2] (by decide) ⟨rfl, rfl, rfl, rfl, rfl, trivial⟩ ⟨rfl, rfl, trivial⟩ ⟨⟨0, rfl⟩, ⟨6, rfl⟩, trivial⟩), hM⟩
        · replace hM := cf hb480 hM
          refine c_f hS rfl hb480 ?_
          refine wp_skip ?_
          try simp only [Exit.then, Exit.inBlock, ↓reduceIte, Nat.reduceEqDiff]
          exact ⟨out390, v391, cl392, (hS.meet [1, 2] (by decide) ⟨rfl, rfl, rfl, rfl, rfl, trivial⟩ ⟨rfl, rfl, trivial⟩ ⟨⟨2, rfl⟩, ⟨3, rfl⟩, trivial⟩), hM⟩
      · rintro a w ⟨out464, v465, cl466, hS, hM⟩
        unfold record_Readers_j2 at hM
        refine r_list ?_
        refine wl rfl (ky (v := .int .i64 (IntKind.i64.wrap (g394 + 1))) hS (y_int hS rfl rfl rfl) rfl rfl fun a hS => ?_)
        refine wl rfl (ky (v := .int .i64 (IntKind.i64.wrap (g394 + 1))) hS (y_move hS rfl) rfl rfl fun a hS => ?_)
        refine wpList_nil ?_
        try simp only [Exit.then, Exit.inBlock, ↓reduceIte, Nat.reduceEqDiff]
        exact ⟨(out464, IntKind.i64.wrap (g394 + 1)), (Option.some.inj hM).symm, out464, (IntKind.i64.wrap (g394 + 1)), v465, cl466, rfl, (hS.meet [0, 1] (by decide) ⟨rfl, rfl, rfl, rfl, rfl, trivial⟩ ⟨rfl, rfl, trivial⟩ ⟨⟨0, rfl⟩, ⟨1, rfl⟩, trivial⟩)⟩
    · replace hM := cf hb444 hM
      refine c_f hS rfl hb444 ?_
      refine wp_exit ?_
      try simp only [Exit.then, Exit.inBlock, ↓reduceIte, Nat.reduceEqDiff]
      injection hM with hM
      subst hM
      have hr := hf1 _ rfl
      subst hr
      have hM : record_Readers_j1 out390 = some y := hMo1
      exact ⟨out390, v391, cl392, (hS.meet [0] (by decide) ⟨rfl, trivial⟩ ⟨rfl, trivial⟩ ⟨⟨0, rfl⟩, trivial⟩), hM⟩
  · rintro a w ⟨out335, v336, cl337, hS, hM⟩
    unfold record_Readers_j1 at hM
    refine wp_seq_k fun K45 hK45 => ?_
    refine r_list ?_
    refine wl rfl (ky (v := v336) hS (y_move hS rfl) rfl rfl fun a hS => ?_)
    refine wl rfl (ky (v := v336) hS (y_assign hS rfl) rfl rfl fun a hS => ?_)
    refine wpList_nil ?_
    try simp only [Exit.then, Exit.inBlock, ↓reduceIte, Nat.reduceEqDiff]
    refine hK45 _ _ ?_
    refine wp_ret ?_
    injection hM with hM
    subst hM
    try simp only [Exit.then, Exit.inBlock, ↓reduceIte, Nat.reduceEqDiff]
    refine ret_ok hS Tryd.results46 (res_tmp hS rfl res_nil) ?_
    exact ⟨v336, cl337, rfl, hS.retOwn ⟨.inr (List.mem_of_getElem? (i := 0) rfl), trivial⟩ 0 rfl 0 rfl⟩
end Go.Proofs.YtjoilbmkcknnfaaDoor
