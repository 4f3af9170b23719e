/- What functions of the program compute; that they do. -/
import Derived.Test.YthpeklnhkkadjaaDoorMT
import Derived.Test.YthpeklnhkkadjaaDoorD1
import Derived.Test.YthpeklnhkkadjaaDoorD2
set_option linter.unusedVariables false
set_option linter.unusedSimpArgs false
namespace Go.Proofs.YthpeklnhkkadjaaDoor
open Go.RowKit
noncomputable def ref32_Copy (d_0 : DequeD) : Option DequeD := gd (roomB (([] : List KeyD).length + d_0.Keys.length)) <| some ((DequeD.mk (([] : List KeyD) ++ d_0.Keys)))
set_option maxRecDepth 100000 in
set_option maxHeartbeats 4000000 in
theorem ref32_Copy_c (T : Nat → Prop) (W0 : World) (hT : ∀ k, T k → k < W0.heap.size) (d_0 : DequeD) (v1 : Value) (hv1 : SlR R_KeyD T W0 v1 d_0.Keys) (y : DequeD) (hM : ref32_Copy d_0 = some y) : Rets Tryd.prog No 54 [.agg #[v1]] W0 (fun v w' => ∃ (v2 : Value) (cl3 : List Value), v = .agg #[v2] ∧ OwnR R_KeyD T W0 w' [.own v2 26 R_KeyD.size cl3] 26 v2 cl3 y.Keys) := by
  refine enter (c := _) Tryd.func54 rfl T 7 Tryd.ntmps54 hT rfl fun a hS => ?_
  replace hS := hS.fact (SlF R_KeyD v1 d_0.Keys) (SlR.dn hv1)
  unfold ref32_Copy at hM
  refine wp_seq_k fun K3 hK3 => ?_
  refine r_list ?_
  refine wl rfl (k_box hS rfl (cs := [v1]) rfl rfl fun b12 hnb14 a w hk hS => ?_)
  refine wl rfl (k_alloc hS ze24 rfl fun b15 hnb17 a w hk hS => ?_)
  refine wpList_nil ?_
  try simp only [Exit.then, Exit.inBlock, ↓reduceIte, Nat.reduceEqDiff]
  refine hK3 _ _ ?_
  refine wp_seq_k fun K4 hK4 => ?_
  refine r_list ?_
  refine wl rfl (ky (v := .pointer (some ⟨b12, 0 + 0, none⟩)) hS (y_fld hS rfl fl24_0) rfl rfl fun a hS => ?_)
  refine wl rfl (ky (v := v1) hS (y_load hS rfl ty22 1 rfl id (us := [v1]) rfl rfl (fun _ => rfl)) rfl rfl fun a hS => ?_)
  replace hS := hS.nilRow R_KeyD 26 (by decide)
  obtain ⟨hg19, hM⟩ := gd_some hM
  refine wl rfl (k_apps (R := R_KeyD) (xs := ([] : List KeyD)) (ys := d_0.Keys) hS el22 (by decide) (by decide) rfl rfl 0 rfl 0 rfl 1 rfl hg19 rfl fun v20 cl21 a w hk hS => ?_)
  refine wl rfl (ky (v := .agg #[v20]) hS (y_build (ps := [(0, .tmp 5)]) hS pl24 ze24 rfl (us := [[v20]]) ⟨(cells1 (own_one (hS.own _ (List.mem_of_getElem? (i := 0) rfl)).1)), trivial⟩ (ws := [v20]) rfl) rfl rfl fun a hS => ?_)
  refine wl rfl (k_store hS rfl rfl (us := [v20]) rfl ty24 1 rfl rfl rfl (oc (own_one (hS.own _ (List.mem_of_getElem? (i := 0) rfl)).1) on) fun w hk hS => ?_)
  refine wpList_nil ?_
  try simp only [Exit.then, Exit.inBlock, ↓reduceIte, Nat.reduceEqDiff]
  refine hK4 _ _ ?_
  refine wp_ret ?_
  injection hM with hM
  subst hM
  try simp only [Exit.then, Exit.inBlock, ↓reduceIte, Nat.reduceEqDiff]
  refine ret_ok hS Tryd.results54 (res_cell hS rfl 1 rfl ty24 rfl (fun h => by cases h) res_nil) ?_
  exact ⟨v20, cl21, rfl, hS.retOwn ⟨.inr (List.mem_of_getElem? (i := 0) rfl), trivial⟩ 0 rfl 0 rfl⟩

noncomputable def ref32_Push (d_0 : DequeD) (k_1 : KeyD) : Option (DequeD × Int) := (ref32_Copy d_0).bind fun u32 => (ref23_Valid k_1).bind fun u35 => cond (!(u35)) (some ((u32, 40))) (cond (decide ((64 : Int) ≤ (u32.Keys.length : Int))) (some ((u32, 45))) (gd (roomB (u32.Keys.length + ([k_1]).length)) <| some (((DequeD.mk (u32.Keys ++ ([k_1]))), 0))))
set_option maxRecDepth 100000 in
set_option maxHeartbeats 4000000 in
theorem ref32_Push_c (T : Nat → Prop) (W0 : World) (hT : ∀ k, T k → k < W0.heap.size) (d_0 : DequeD) (k_1 : KeyD) (v1 : Value) (hv1 : SlR R_KeyD T W0 v1 d_0.Keys) (y : DequeD × Int) (hM : ref32_Push d_0 k_1 = some y) : Rets Tryd.prog No 16 [.agg #[v1], .agg #[.int .i64 k_1.Kind, .string k_1.Text]] W0 (fun v w' => ∃ (v2 : Value) (cl3 : List Value), v = .tuple #[.agg #[v2], .int .i64 y.2] ∧ OwnR R_KeyD T W0 w' [.own v2 26 R_KeyD.size cl3] 26 v2 cl3 y.1.Keys) := by
  refine enter (c := _) Tryd.func16 rfl T 26 Tryd.ntmps16 hT rfl fun a hS => ?_
  replace hS := hS.fact (SlF R_KeyD v1 d_0.Keys) (SlR.dn hv1)
  unfold ref32_Push at hM
  refine wp_seq_k fun K10 hK10 => ?_
  refine r_list ?_
  refine wl rfl (k_box hS rfl (cs := [v1]) rfl rfl fun b23 hnb25 a w hk hS => ?_)
  refine wl rfl (k_box hS rfl (cs := [.int .i64 k_1.Kind, .string k_1.Text]) rfl rfl fun b26 hnb28 a w hk hS => ?_)
  refine wl rfl (k_alloc hS ze24 rfl fun b29 hnb31 a w hk hS => ?_)
  refine wl rfl (ky (v := .int .i64 0) hS (y_assign hS rfl) rfl rfl fun a hS => ?_)
  refine wpList_nil ?_
  try simp only [Exit.then, Exit.inBlock, ↓reduceIte, Nat.reduceEqDiff]
  refine hK10 _ _ ?_
  refine wp_seq_k fun K11 hK11 => ?_
  refine r_list ?_
  refine wl rfl (ky (v := .agg #[v1]) hS (y_load hS rfl ty24 2 rfl id (us := [v1]) rfl rfl (fun h => by cases h)) rfl rfl fun a hS => ?_)
  obtain ⟨u32, hu32, hM⟩ := bd hM
  refine wl rfl (k_call hS ci54 rfl rfl (ref32_Copy_c _ _ hS.dlt d_0 _ (hS.get 0 rfl) _ hu32) fun _ w hR a hk hA => ?_)
  obtain ⟨vz33_2, clz33_3, he, ⟨hOvz33_2, hFvz33_2, hRvz33_2⟩⟩ := hR
  replace he := he.symm
  subst he
  have hS := hA [.own vz33_2 26 R_KeyD.size clz33_3] (adds1 ⟨hOvz33_2, by decide⟩ hFvz33_2) (pw1 _)
  replace hS := hS.fact (RowsF R_KeyD clz33_3 u32.Keys) (hRvz33_2.keep (Kt.refl _ _) (dT_dT _))
  refine wl rfl (k_store hS rfl rfl (us := [vz33_2]) rfl ty24 3 rfl rfl rfl (oc (own_one (hS.own _ (List.mem_of_getElem? (i := 0) rfl)).1) on) fun w hk hS => ?_)
  refine wpList_nil ?_
  try simp only [Exit.then, Exit.inBlock, ↓reduceIte, Nat.reduceEqDiff]
  refine hK11 _ _ ?_
  refine wp_seq_k fun K12 hK12 => ?_
  refine wp_block ?_
  refine wp_seq_k fun K13 hK13 => ?_
  refine r_list ?_
  refine wl rfl (ky (v := .agg #[.int .i64 k_1.Kind, .string k_1.Text]) hS (y_load hS rfl ty26 2 rfl id (us := [.int .i64 k_1.Kind, .string k_1.Text]) rfl rfl (fun h => by cases h)) rfl rfl fun a hS => ?_)
  obtain ⟨u35, hu35, hM⟩ := bd hM
  refine wl rfl (k_call hS ci55 rfl rfl (ref23_Valid_c _ _ hS.dlt k_1 _ hu35) fun _ w hR a hk hA => ?_)
  have he := Eq.symm hR
  subst he
  have hS := hA [] (fun r hr => by cases hr) List.Pairwise.nil
  refine wl rfl (ky (v := .bool (!(u35))) hS (y_not hS rfl) rfl rfl fun a hS => ?_)
  refine wl rfl (ky (v := .bool (!(u35))) hS (y_assign hS rfl) rfl rfl fun a hS => ?_)
  refine wpList_nil ?_
  try simp only [Exit.then, Exit.inBlock, ↓reduceIte, Nat.reduceEqDiff]
  refine hK13 _ _ ?_
  rcases bool2 (!(u35)) with hb37 | hb37
  · replace hM := ct hb37 hM
    refine c_t hS rfl hb37 ?_
    refine wp_seq_k fun K14 hK14 => ?_
    refine r_list ?_
    refine wl rfl (ky (v := .agg #[vz33_2]) hS (y_load hS rfl ty24 3 rfl id (us := [vz33_2]) rfl rfl (fun h => by cases h)) rfl rfl fun a hS => ?_)
    refine wl rfl (k_store hS rfl rfl (us := [vz33_2]) rfl ty24 1 rfl rfl rfl (oc (own_one (hS.own _ (List.mem_of_getElem? (i := 0) rfl)).1) on) fun w hk hS => ?_)
    refine wl rfl (ky (v := .int .i64 40) hS (y_assign hS rfl) rfl rfl fun a hS => ?_)
    refine wpList_nil ?_
    try simp only [Exit.then, Exit.inBlock, ↓reduceIte, Nat.reduceEqDiff]
    refine hK14 _ _ ?_
    refine wp_ret ?_
    injection hM with hM
    subst hM
    try simp only [Exit.then, Exit.inBlock, ↓reduceIte, Nat.reduceEqDiff]
    refine ret_ok hS Tryd.results16 (res_cell hS rfl 1 rfl ty24 rfl (fun h => by cases h) (res_tmp hS rfl res_nil)) ?_
    exact ⟨vz33_2, clz33_3, rfl, hS.retOwn ⟨.inr (List.mem_of_getElem? (i := 0) rfl), trivial⟩ 0 rfl 0 rfl⟩
  · replace hM := cf hb37 hM
    refine c_f hS rfl hb37 ?_
    refine wp_seq_k fun K15 hK15 => ?_
    refine r_list ?_
    refine wl rfl (ky (v := .pointer (some ⟨b23, 0 + 0, none⟩)) hS (y_fld hS rfl fl24_0) rfl rfl fun a hS => ?_)
    refine wl rfl (ky (v := vz33_2) hS (y_load hS rfl ty22 3 rfl id (us := [vz33_2]) rfl rfl (fun _ => rfl)) rfl rfl fun a hS => ?_)
    refine wl rfl (ky (v := .int .i64 (u32.Keys.length : Int)) hS (y_leno (R := R_KeyD) (xs := u32.Keys) hS sl22 rfl 0 rfl 0 rfl) rfl rfl fun a hS => ?_)
    refine wl rfl (ky (v := .bool (decide ((64 : Int) ≤ (u32.Keys.length : Int)))) hS (y_int hS rfl rfl rfl) rfl rfl fun a hS => ?_)
    refine wl rfl (ky (v := .bool (decide ((64 : Int) ≤ (u32.Keys.length : Int)))) hS (y_assign hS rfl) rfl rfl fun a hS => ?_)
    refine wpList_nil ?_
    try simp only [Exit.then, Exit.inBlock, ↓reduceIte, Nat.reduceEqDiff]
    refine hK15 _ _ ?_
    rcases bool2 (decide ((64 : Int) ≤ (u32.Keys.length : Int))) with hb38 | hb38
    · replace hM := ct hb38 hM
      refine c_t hS rfl hb38 ?_
      refine wp_seq_k fun K16 hK16 => ?_
      refine r_list ?_
      refine wl rfl (ky (v := .agg #[vz33_2]) hS (y_load hS rfl ty24 3 rfl id (us := [vz33_2]) rfl rfl (fun h => by cases h)) rfl rfl fun a hS => ?_)
      refine wl rfl (k_store hS rfl rfl (us := [vz33_2]) rfl ty24 1 rfl rfl rfl (oc (own_one (hS.own _ (List.mem_of_getElem? (i := 0) rfl)).1) on) fun w hk hS => ?_)
      refine wl rfl (ky (v := .int .i64 45) hS (y_assign hS rfl) rfl rfl fun a hS => ?_)
      refine wpList_nil ?_
      try simp only [Exit.then, Exit.inBlock, ↓reduceIte, Nat.reduceEqDiff]
      refine hK16 _ _ ?_
      refine wp_ret ?_
      injection hM with hM
      subst hM
      try simp only [Exit.then, Exit.inBlock, ↓reduceIte, Nat.reduceEqDiff]
      refine ret_ok hS Tryd.results16 (res_cell hS rfl 1 rfl ty24 rfl (fun h => by cases h) (res_tmp hS rfl res_nil)) ?_
      exact ⟨vz33_2, clz33_3, rfl, hS.retOwn ⟨.inr (List.mem_of_getElem? (i := 0) rfl), trivial⟩ 0 rfl 0 rfl⟩
    · replace hM := cf hb38 hM
      refine c_f hS rfl hb38 ?_
      refine wp_skip ?_
      try simp only [Exit.then, Exit.inBlock, ↓reduceIte, Nat.reduceEqDiff]
      refine hK12 _ _ ?_
      refine wp_seq_k fun K17 hK17 => ?_
      refine r_list ?_
      refine wl rfl (ky (v := .pointer (some ⟨b23, 0 + 0, none⟩)) hS (y_fld hS rfl fl24_0) rfl rfl fun a hS => ?_)
      refine wl rfl (ky (v := vz33_2) hS (y_load hS rfl ty22 3 rfl id (us := [vz33_2]) rfl rfl (fun _ => rfl)) rfl rfl fun a hS => ?_)
      refine wl rfl (ky (v := .agg #[.int .i64 k_1.Kind, .string k_1.Text]) hS (y_load hS rfl ty26 2 rfl id (us := [.int .i64 k_1.Kind, .string k_1.Text]) rfl rfl (fun h => by cases h)) rfl rfl fun a hS => ?_)
      refine wl rfl (k_bslice (ps := [(0, .tmp 21)]) hS el22 ze26 (zl := [.int .i64 0, .string (ByteArray.mk #[])]) (by kernel_rfl) rfl (us := [[.int .i64 k_1.Kind, .string k_1.Text]]) ⟨rfl, trivial⟩ (ws := [.int .i64 k_1.Kind, .string k_1.Text]) rfl rfl rfl rfl fun b39 a w hk hS => ?_)
      replace hS := hS.lit (R := R_KeyD) (us := [.int .i64 k_1.Kind, .string k_1.Text]) (xs := [k_1]) 0 rfl (by decide) (RowsOk.one_ (R := R_KeyD) (x := k_1) rfl) rfl rfl
      replace hS := hS.freeze (R := R_KeyD) 0 rfl 0 rfl
      obtain ⟨hg41, hM⟩ := gd_some hM
      refine wl rfl (k_apps (R := R_KeyD) (xs := u32.Keys) (ys := [k_1]) hS el22 (by decide) (by decide) rfl rfl 0 rfl 2 rfl 0 rfl hg41 rfl fun v42 cl43 a w hk hS => ?_)
      refine wl rfl (ky (v := .pointer (some ⟨b23, 0 + 0, none⟩)) hS (y_fld hS rfl fl24_0) rfl rfl fun a hS => ?_)
      refine wl rfl (k_store hS rfl rfl (us := [v42]) (cells1 (own_one (hS.own _ (List.mem_of_getElem? (i := 0) rfl)).1)) ty22 3 rfl rfl rfl (oc (own_one (hS.own _ (List.mem_of_getElem? (i := 0) rfl)).1) on) fun w hk hS => ?_)
      refine wpList_nil ?_
      try simp only [Exit.then, Exit.inBlock, ↓reduceIte, Nat.reduceEqDiff]
      refine hK17 _ _ ?_
      refine wp_seq_k fun K18 hK18 => ?_
      refine r_list ?_
      refine wl rfl (ky (v := .agg #[v42]) hS (y_load hS rfl ty24 3 rfl id (us := [v42]) rfl rfl (fun h => by cases h)) rfl rfl fun a hS => ?_)
      refine wl rfl (k_store hS rfl rfl (us := [v42]) rfl ty24 1 rfl rfl rfl (oc (own_one (hS.own _ (List.mem_of_getElem? (i := 0) rfl)).1) on) fun w hk hS => ?_)
      refine wl rfl (ky (v := .int .i64 0) hS (y_assign hS rfl) rfl rfl fun a hS => ?_)
      refine wpList_nil ?_
      try simp only [Exit.then, Exit.inBlock, ↓reduceIte, Nat.reduceEqDiff]
      refine hK18 _ _ ?_
      refine wp_ret ?_
      injection hM with hM
      subst hM
      try simp only [Exit.then, Exit.inBlock, ↓reduceIte, Nat.reduceEqDiff]
      refine ret_ok hS Tryd.results16 (res_cell hS rfl 1 rfl ty24 rfl (fun h => by cases h) (res_tmp hS rfl res_nil)) ?_
      exact ⟨v42, cl43, rfl, hS.retOwn ⟨.inr (List.mem_of_getElem? (i := 0) rfl), trivial⟩ 0 rfl 0 rfl⟩

noncomputable def ref32_Valid_j1 (d_0 : DequeD) : Option Bool := some (decide (((d_0.Keys.length : Int) : Int) ≤ 64))
noncomputable def ref32_Valid_l2 (d_0 : DequeD) (g58 : Int) (g59 : Int) : Option (Fl (Int × Int) (Fl (Unit) Bool)) := cond (decide ((g59 : Int) < g58)) ((getI d_0.Keys g59).bind fun e76 => (ref23_Valid e76).bind fun u85 => cond (!(u85)) (some (.out (.out false))) (some (.go (g58, IntKind.i64.wrap (g59 + 1))))) (some (.out (.go ())))
noncomputable def ref32_Valid (d_0 : DequeD) : Option Bool := (loop (fun s : Int × Int => ref32_Valid_l2 d_0 s.1 s.2) ((d_0.Keys.length : Int), 0)).bind fun r => Fl.el r (fun s => ref32_Valid_j1 d_0) (fun y => some (y))
set_option maxRecDepth 100000 in
set_option maxHeartbeats 4000000 in
theorem ref32_Valid_c (T : Nat → Prop) (W0 : World) (hT : ∀ k, T k → k < W0.heap.size) (d_0 : DequeD) (v1 : Value) (hv1 : SlR R_KeyD T W0 v1 d_0.Keys) (y : Bool) (hM : ref32_Valid d_0 = some y) : Rets Tryd.prog No 18 [.agg #[v1]] W0 (fun v w' => v = .bool y) := by
  refine enter (c := _) Tryd.func18 rfl T 20 Tryd.ntmps18 hT rfl fun a hS => ?_
  replace hS := hS.fact (SlF R_KeyD v1 d_0.Keys) (SlR.dn hv1)
  unfold ref32_Valid at hM
  refine wp_seq_k fun K17 hK17 => ?_
  refine r_list ?_
  refine wl rfl (k_box hS rfl (cs := [v1]) rfl rfl fun b38 hnb40 a w hk hS => ?_)
  refine wl rfl (ky (v := .bool false) hS (y_assign hS rfl) rfl rfl fun a hS => ?_)
  refine wpList_nil ?_
  try simp only [Exit.then, Exit.inBlock, ↓reduceIte, Nat.reduceEqDiff]
  refine hK17 _ _ ?_
  refine seq_j (J := fun a w => St W0 No T 20 [(1, .pointer (some ⟨b38, 0, none⟩))] [.box b38 [v1] 24] [SlF R_KeyD v1 d_0.Keys] a w ∧ ref32_Valid_j1 d_0 = some y) ?_ ?_
  · skip
    refine wp_seq_k fun K26 hK26 => ?_
    refine r_list ?_
    refine wl rfl (ky (v := .pointer (some ⟨b38, 0 + 0, none⟩)) hS (y_fld hS rfl fl24_0) rfl rfl fun a hS => ?_)
    refine wl rfl (ky (v := v1) hS (y_load hS rfl ty22 0 rfl id (us := [v1]) rfl rfl (fun _ => rfl)) rfl rfl fun a hS => ?_)
    refine wl rfl (ky (v := .int .i64 (d_0.Keys.length : Int)) hS (y_len (R := R_KeyD) (xs := d_0.Keys) hS sl22 rfl 0 rfl) rfl rfl fun a hS => ?_)
    refine wl rfl (ky (v := .int .i64 0) hS (y_move hS rfl) rfl rfl fun a hS => ?_)
    refine wpList_nil ?_
    try simp only [Exit.then, Exit.inBlock, ↓reduceIte, Nat.reduceEqDiff]
    refine hK26 _ _ ?_
    refine wp_block ?_
    obtain ⟨r1, hl1, hMo1⟩ := bd hM
    refine wp_lp (fun s : Int × Int => ref32_Valid_l2 d_0 s.1 s.2) (fun s a w => ∃ (g58 : Int) (g59 : Int), (g58, g59) = s ∧ St W0 No T 20 [(1, .pointer (some ⟨b38, 0, none⟩)), (6, v1), (7, .int .i64 g58), (8, .int .i64 g59)] [.box b38 [v1] 24] [SlF R_KeyD v1 d_0.Keys] a w) hl1 ⟨(d_0.Keys.length : Int), 0, rfl, (hS.meet [0] (by decide) ⟨rfl, rfl, rfl, rfl, trivial⟩ ⟨rfl, trivial⟩ ⟨⟨0, rfl⟩, trivial⟩)⟩ ?_
    rintro s a w f1 ⟨g58, g59, rfl, hS⟩ hM hf1
    have hM : ref32_Valid_l2 d_0 g58 g59 = some f1 := hM
    unfold ref32_Valid_l2 at hM
    refine wp_seq_k fun K33 hK33 => ?_
    refine r_list ?_
    refine wl rfl (ky (v := .bool (decide ((g59 : Int) < g58))) hS (y_int hS rfl rfl rfl) rfl rfl fun a hS => ?_)
    refine wpList_nil ?_
    try simp only [Exit.then, Exit.inBlock, ↓reduceIte, Nat.reduceEqDiff]
    refine hK33 _ _ ?_
    refine wp_seq_k fun K34 hK34 => ?_
    rcases bool2 (decide ((g59 : Int) < g58)) with hb75 | hb75
    · replace hM := ct hb75 hM
      refine c_t hS rfl hb75 ?_
      refine wp_skip ?_
      try simp only [Exit.then, Exit.inBlock, ↓reduceIte, Nat.reduceEqDiff]
      refine hK34 _ _ ?_
      refine wp_seq_k fun K35 hK35 => ?_
      refine wp_block ?_
      refine wp_seq_k fun K36 hK36 => ?_
      refine r_list ?_
      obtain ⟨e76, he76, hM⟩ := bd hM
      refine wl rfl (k_index (R := R_KeyD) hS sl22 ty26 rfl rfl 0 rfl he76 rfl fun b77 o78 cs80 hr79 a hS => ?_)
      obtain rfl := hr79
      refine wl rfl (ky (v := .agg #[.int .i64 e76.Kind, .string e76.Text]) hS (y_loadc (k := 0) hS ty26 0 rfl rfl (fun _ h => h.elim) (us := [.int .i64 e76.Kind, .string e76.Text]) rfl rfl (fun h => by cases h)) rfl rfl fun a hS => ?_)
      refine wl rfl (k_alloc hS ze26 rfl fun b82 hnb84 a w hk hS => ?_)
      refine wl rfl (k_store hS rfl rfl (us := [.int .i64 e76.Kind, .string e76.Text]) rfl ty26 0 rfl rfl rfl (oc rfl (oc rfl on)) fun w hk hS => ?_)
      refine wpList_nil ?_
      try simp only [Exit.then, Exit.inBlock, ↓reduceIte, Nat.reduceEqDiff]
      refine hK36 _ _ ?_
      refine wp_seq_k fun K37 hK37 => ?_
      refine r_list ?_
      refine wl rfl (ky (v := .agg #[.int .i64 e76.Kind, .string e76.Text]) hS (y_load hS rfl ty26 0 rfl id (us := [.int .i64 e76.Kind, .string e76.Text]) rfl rfl (fun h => by cases h)) rfl rfl fun a hS => ?_)
      obtain ⟨u85, hu85, hM⟩ := bd hM
      refine wl rfl (k_call hS ci55 rfl rfl (ref23_Valid_c _ _ hS.dlt e76 _ hu85) fun _ w hR a hk hA => ?_)
      have he := Eq.symm hR
      subst he
      have hS := hA [] (fun r hr => by cases hr) List.Pairwise.nil
      refine wl rfl (ky (v := .bool (!(u85))) hS (y_not hS rfl) rfl rfl fun a hS => ?_)
      refine wpList_nil ?_
      try simp only [Exit.then, Exit.inBlock, ↓reduceIte, Nat.reduceEqDiff]
      refine hK37 _ _ ?_
      rcases bool2 (!(u85)) with hb87 | hb87
      · replace hM := ct hb87 hM
        refine c_t hS rfl hb87 ?_
        refine wp_seq_k fun K38 hK38 => ?_
        refine r_list ?_
        refine wl rfl (ky (v := .bool false) hS (y_assign hS rfl) rfl rfl fun a hS => ?_)
        refine wpList_nil ?_
        try simp only [Exit.then, Exit.inBlock, ↓reduceIte, Nat.reduceEqDiff]
        refine hK38 _ _ ?_
        refine wp_ret ?_
        injection hM with hM
        subst hM
        have hr := hf1 _ rfl
        subst hr
        replace hMo1 := el_out hMo1
        have hM := hMo1
        injection hM with hM
        subst hM
        try simp only [Exit.then, Exit.inBlock, ↓reduceIte, Nat.reduceEqDiff]
        refine ret_ok hS Tryd.results18 (res_tmp hS rfl res_nil) ?_
        exact rfl
      · replace hM := cf hb87 hM
        refine c_f hS rfl hb87 ?_
        refine wp_skip ?_
        try simp only [Exit.then, Exit.inBlock, ↓reduceIte, Nat.reduceEqDiff]
        refine hK35 _ _ ?_
        refine r_list ?_
        refine wl rfl (ky (v := .int .i64 (IntKind.i64.wrap (g59 + 1))) hS (y_int hS rfl rfl rfl) rfl rfl fun a hS => ?_)
        refine wl rfl (ky (v := .int .i64 (IntKind.i64.wrap (g59 + 1))) hS (y_move hS rfl) rfl rfl fun a hS => ?_)
        refine wpList_nil ?_
        try simp only [Exit.then, Exit.inBlock, ↓reduceIte, Nat.reduceEqDiff]
        exact ⟨(g58, IntKind.i64.wrap (g59 + 1)), (Option.some.inj hM).symm, g58, (IntKind.i64.wrap (g59 + 1)), rfl, (hS.meet [1] (by decide) ⟨rfl, rfl, rfl, rfl, trivial⟩ ⟨rfl, trivial⟩ ⟨⟨1, rfl⟩, trivial⟩)⟩
    · replace hM := cf hb75 hM
      refine c_f hS rfl hb75 ?_
      refine wp_exit ?_
      try simp only [Exit.then, Exit.inBlock, ↓reduceIte, Nat.reduceEqDiff]
      injection hM with hM
      subst hM
      have hr := hf1 _ rfl
      subst hr
      replace hMo1 := el_go hMo1
      have hM : ref32_Valid_j1 d_0 = some y := hMo1
      exact ⟨(hS.meet [0] (by decide) ⟨rfl, trivial⟩ ⟨rfl, trivial⟩ ⟨⟨0, rfl⟩, trivial⟩), hM⟩
  · rintro a w ⟨hS, hM⟩
    unfold ref32_Valid_j1 at hM
    refine wp_seq_k fun K25 hK25 => ?_
    refine r_list ?_
    refine wl rfl (ky (v := .pointer (some ⟨b38, 0 + 0, none⟩)) hS (y_fld hS rfl fl24_0) rfl rfl fun a hS => ?_)
    refine wl rfl (ky (v := v1) hS (y_load hS rfl ty22 0 rfl id (us := [v1]) rfl rfl (fun _ => rfl)) rfl rfl fun a hS => ?_)
    refine wl rfl (ky (v := .int .i64 (d_0.Keys.length : Int)) hS (y_len (R := R_KeyD) (xs := d_0.Keys) hS sl22 rfl 0 rfl) rfl rfl fun a hS => ?_)
    refine wl rfl (ky (v := .bool (decide (((d_0.Keys.length : Int) : Int) ≤ 64))) hS (y_int hS rfl rfl rfl) rfl rfl fun a hS => ?_)
    refine wl rfl (ky (v := .bool (decide (((d_0.Keys.length : Int) : Int) ≤ 64))) hS (y_assign hS rfl) rfl rfl fun a hS => ?_)
    refine wpList_nil ?_
    try simp only [Exit.then, Exit.inBlock, ↓reduceIte, Nat.reduceEqDiff]
    refine hK25 _ _ ?_
    refine wp_ret ?_
    injection hM with hM
    subst hM
    try simp only [Exit.then, Exit.inBlock, ↓reduceIte, Nat.reduceEqDiff]
    refine ret_ok hS Tryd.results18 (res_tmp hS rfl res_nil) ?_
    exact rfl

noncomputable def ref23_SameList_j1 : Option Bool := some (true)
noncomputable def ref23_SameList_l2 (a_0 : (List KeyD)) (b_1 : (List KeyD)) (g214 : Int) : Option (Fl (Int) (Fl (Unit) Bool)) := cond (decide ((g214 : Int) < (a_0.length : Int))) ((getI a_0 g214).bind fun e256 => (getI b_1 g214).bind fun e286 => cond (!((e286.Kind : Int) == e256.Kind && e286.Text.toList == e256.Text.toList)) (some (.out (.out false))) (some (.go (IntKind.i64.wrap (g214 + 1))))) (some (.out (.go ())))
noncomputable def ref23_SameList (a_0 : (List KeyD)) (b_1 : (List KeyD)) : Option Bool := cond (((a_0.length : Int) : Int) != (b_1.length : Int)) (some (false)) ((loop (fun s : Int => ref23_SameList_l2 a_0 b_1 s) 0).bind fun r => Fl.el r (fun s => ref23_SameList_j1) (fun y => some (y)))
set_option maxRecDepth 100000 in
set_option maxHeartbeats 4000000 in
theorem ref23_SameList_c (T : Nat → Prop) (W0 : World) (hT : ∀ k, T k → k < W0.heap.size) (a_0 : (List KeyD)) (b_1 : (List KeyD)) (v1 : Value) (v2 : Value) (hv1 : SlR R_KeyD T W0 v1 a_0) (hv2 : SlR R_KeyD T W0 v2 b_1) (y : Bool) (hM : ref23_SameList a_0 b_1 = some y) : Rets Tryd.prog No 38 [v1, v2] W0 (fun v w' => v = .bool y) := by
  refine enter (c := _) Tryd.func38 rfl T 26 Tryd.ntmps38 hT rfl fun a hS => ?_
  replace hS := hS.fact (SlF R_KeyD v1 a_0) (SlR.dn hv1)
  replace hS := hS.fact (SlF R_KeyD v2 b_1) (SlR.dn hv2)
  unfold ref23_SameList at hM
  refine wp_seq_k fun K20 hK20 => ?_
  refine r_list ?_
  refine wl rfl (ky (v := .bool false) hS (y_assign hS rfl) rfl rfl fun a hS => ?_)
  refine wpList_nil ?_
  try simp only [Exit.then, Exit.inBlock, ↓reduceIte, Nat.reduceEqDiff]
  refine hK20 _ _ ?_
  refine wp_seq_k fun K21 hK21 => ?_
  refine wp_seq_k fun K22 hK22 => ?_
  refine r_list ?_
  refine wl rfl (ky (v := v1) hS (y_move hS rfl) rfl rfl fun a hS => ?_)
  refine wl rfl (ky (v := .int .i64 (a_0.length : Int)) hS (y_len (R := R_KeyD) (xs := a_0) hS sl22 rfl 1 rfl) rfl rfl fun a hS => ?_)
  refine wl rfl (ky (v := v2) hS (y_move hS rfl) rfl rfl fun a hS => ?_)
  refine wl rfl (ky (v := .int .i64 (b_1.length : Int)) hS (y_len (R := R_KeyD) (xs := b_1) hS sl22 rfl 0 rfl) rfl rfl fun a hS => ?_)
  refine wl rfl (ky (v := .bool (((a_0.length : Int) : Int) != (b_1.length : Int))) hS (y_int hS rfl rfl rfl) rfl rfl fun a hS => ?_)
  refine wpList_nil ?_
  try simp only [Exit.then, Exit.inBlock, ↓reduceIte, Nat.reduceEqDiff]
  refine hK22 _ _ ?_
  rcases bool2 (((a_0.length : Int) : Int) != (b_1.length : Int)) with hb92 | hb92
  · replace hM := ct hb92 hM
    refine c_t hS rfl hb92 ?_
    refine wp_seq_k fun K23 hK23 => ?_
    refine r_list ?_
    refine wl rfl (ky (v := .bool false) hS (y_assign hS rfl) rfl rfl fun a hS => ?_)
    refine wpList_nil ?_
    try simp only [Exit.then, Exit.inBlock, ↓reduceIte, Nat.reduceEqDiff]
    refine hK23 _ _ ?_
    refine wp_ret ?_
    injection hM with hM
    subst hM
    try simp only [Exit.then, Exit.inBlock, ↓reduceIte, Nat.reduceEqDiff]
    refine ret_ok hS Tryd.results38 (res_tmp hS rfl res_nil) ?_
    exact rfl
  · replace hM := cf hb92 hM
    refine c_f hS rfl hb92 ?_
    refine wp_skip ?_
    try simp only [Exit.then, Exit.inBlock, ↓reduceIte, Nat.reduceEqDiff]
    refine hK21 _ _ ?_
    refine seq_j (J := fun a w => St W0 No T 26 [] [] [] a w ∧ ref23_SameList_j1 = some y) ?_ ?_
    · skip
      refine wp_seq_k fun K38 hK38 => ?_
      refine r_list ?_
      refine wl rfl (ky (v := v1) hS (y_move hS rfl) rfl rfl fun a hS => ?_)
      refine wl rfl (ky (v := .int .i64 (a_0.length : Int)) hS (y_len (R := R_KeyD) (xs := a_0) hS sl22 rfl 1 rfl) rfl rfl fun a hS => ?_)
      refine wl rfl (ky (v := .int .i64 0) hS (y_move hS rfl) rfl rfl fun a hS => ?_)
      refine wpList_nil ?_
      try simp only [Exit.then, Exit.inBlock, ↓reduceIte, Nat.reduceEqDiff]
      refine hK38 _ _ ?_
      refine wp_block ?_
      obtain ⟨r1, hl1, hMo1⟩ := bd hM
      refine wp_lp (fun s : Int => ref23_SameList_l2 a_0 b_1 s) (fun s a w => ∃ (g214 : Int), g214 = s ∧ St W0 No T 26 [(1, v2), (12, v1), (13, .int .i64 (a_0.length : Int)), (14, .int .i64 g214)] [] [SlF R_KeyD v2 b_1, SlF R_KeyD v1 a_0] a w) hl1 ⟨0, rfl, (hS.meet [] (by decide) ⟨rfl, rfl, rfl, rfl, trivial⟩ trivial ⟨⟨0, rfl⟩, ⟨1, rfl⟩, trivial⟩)⟩ ?_
      rintro s a w f1 ⟨g214, rfl, hS⟩ hM hf1
      have hM : ref23_SameList_l2 a_0 b_1 g214 = some f1 := hM
      unfold ref23_SameList_l2 at hM
      refine wp_seq_k fun K51 hK51 => ?_
      refine r_list ?_
      refine wl rfl (ky (v := .bool (decide ((g214 : Int) < (a_0.length : Int)))) hS (y_int hS rfl rfl rfl) rfl rfl fun a hS => ?_)
      refine wpList_nil ?_
      try simp only [Exit.then, Exit.inBlock, ↓reduceIte, Nat.reduceEqDiff]
      refine hK51 _ _ ?_
      refine wp_seq_k fun K52 hK52 => ?_
      rcases bool2 (decide ((g214 : Int) < (a_0.length : Int))) with hb255 | hb255
      · replace hM := ct hb255 hM
        refine c_t hS rfl hb255 ?_
        refine wp_skip ?_
        try simp only [Exit.then, Exit.inBlock, ↓reduceIte, Nat.reduceEqDiff]
        refine hK52 _ _ ?_
        refine wp_seq_k fun K53 hK53 => ?_
        refine wp_block ?_
        refine wp_seq_k fun K54 hK54 => ?_
        refine r_list ?_
        refine wl rfl (ky (v := .int .i64 g214) hS (y_move hS rfl) rfl rfl fun a hS => ?_)
        obtain ⟨e256, he256, hM⟩ := bd hM
        refine wl rfl (k_index (R := R_KeyD) hS sl22 ty26 rfl rfl 1 rfl he256 rfl fun b257 o258 cs260 hr259 a hS => ?_)
        obtain rfl := hr259
        refine wl rfl (ky (v := .agg #[.int .i64 e256.Kind, .string e256.Text]) hS (y_loadc (k := 0) hS ty26 0 rfl rfl (fun _ h => h.elim) (us := [.int .i64 e256.Kind, .string e256.Text]) rfl rfl (fun h => by cases h)) rfl rfl fun a hS => ?_)
        refine wl rfl (k_alloc hS ze26 rfl fun b262 hnb264 a w hk hS => ?_)
        refine wl rfl (ky (v := .int .i64 g214) hS (y_assign hS rfl) rfl rfl fun a hS => ?_)
        refine wl rfl (k_store hS rfl rfl (us := [.int .i64 e256.Kind, .string e256.Text]) rfl ty26 0 rfl rfl rfl (oc rfl (oc rfl on)) fun w hk hS => ?_)
        refine wpList_nil ?_
        try simp only [Exit.then, Exit.inBlock, ↓reduceIte, Nat.reduceEqDiff]
        refine hK54 _ _ ?_
        refine wp_seq_k fun K55 hK55 => ?_
        refine draws [] hS mixed rfl (fun c a d v w h => by cases d <;> exact h) fun w hQ hS => ?_
        refine dy 0 (v := v2) rfl (by kernel_rfl) (by kernel_rfl) (by kernel_rfl) rfl hQ hS (y_move hS rfl) rfl rfl rfl fun a hS => ?_
        refine dy 1 (v := .int .i64 g214) rfl (by kernel_rfl) (by kernel_rfl) (by kernel_rfl) rfl hQ hS (y_move hS rfl) rfl rfl rfl fun a hS => ?_
        obtain ⟨e286, he286, hM⟩ := bd hM
        obtain ⟨b287, o288, cs290, hr289, hy292, hS⟩ := d_index (R := R_KeyD) hS sl22 ty26 1 rfl he286
        obtain rfl := hr289
        refine dy 2 (v := .pointer (some ⟨b287, o288, none⟩)) rfl (by kernel_rfl) (by kernel_rfl) (by kernel_rfl) rfl hQ hS (hy292 rfl rfl) rfl rfl rfl fun a hS => ?_
        refine dy (l := []) 3 (v := .agg #[.int .i64 e286.Kind, .string e286.Text]) rfl (by kernel_rfl) (by kernel_rfl) (by kernel_rfl) (by kernel_rfl) hQ hS (y_loadc (k := 0) hS ty26 0 rfl rfl es_nil (us := [.int .i64 e286.Kind, .string e286.Text]) rfl rfl (fun h => by cases h)) rfl rfl rfl fun a hS => ?_
        refine dy (l := []) 4 (v := .agg #[.int .i64 e256.Kind, .string e256.Text]) rfl (by kernel_rfl) (by kernel_rfl) (by kernel_rfl) (by kernel_rfl) hQ hS (y_load hS rfl ty26 0 rfl eo_nil (us := [.int .i64 e256.Kind, .string e256.Text]) rfl rfl (fun h => by cases h)) rfl rfl rfl fun a hS => ?_
        refine dy 5 (v := .bool (!((e286.Kind : Int) == e256.Kind && e286.Text.toList == e256.Text.toList))) rfl (by kernel_rfl) (by kernel_rfl) (by kernel_rfl) rfl hQ hS (eq26n hS rfl rfl) rfl rfl rfl fun a hS => ?_
        refine wpE_done (by kernel_rfl) ?_ _
        try simp only [Exit.then, Exit.inBlock, ↓reduceIte, Nat.reduceEqDiff]
        refine hK55 _ _ ?_
        rcases bool2 (!((e286.Kind : Int) == e256.Kind && e286.Text.toList == e256.Text.toList)) with hb293 | hb293
        · replace hM := ct hb293 hM
          refine c_t hS rfl hb293 ?_
          refine wp_seq_k fun K56 hK56 => ?_
          refine r_list ?_
          refine wl rfl (ky (v := .bool false) hS (y_assign hS rfl) rfl rfl fun a hS => ?_)
          refine wpList_nil ?_
          try simp only [Exit.then, Exit.inBlock, ↓reduceIte, Nat.reduceEqDiff]
          refine hK56 _ _ ?_
          refine wp_ret ?_
          injection hM with hM
          subst hM
          have hr := hf1 _ rfl
          subst hr
          replace hMo1 := el_out hMo1
          have hM := hMo1
          injection hM with hM
          subst hM
          try simp only [Exit.then, Exit.inBlock, ↓reduceIte, Nat.reduceEqDiff]
          refine ret_ok hS Tryd.results38 (res_tmp hS rfl res_nil) ?_
          exact rfl
        · replace hM := cf hb293 hM
          refine c_f hS rfl hb293 ?_
          refine wp_skip ?_
          try simp only [Exit.then, Exit.inBlock, ↓reduceIte, Nat.reduceEqDiff]
          refine hK53 _ _ ?_
          refine r_list ?_
          refine wl rfl (ky (v := .int .i64 (IntKind.i64.wrap (g214 + 1))) hS (y_int hS rfl rfl rfl) rfl rfl fun a hS => ?_)
          refine wl rfl (ky (v := .int .i64 (IntKind.i64.wrap (g214 + 1))) hS (y_move hS rfl) rfl rfl fun a hS => ?_)
          refine wpList_nil ?_
          try simp only [Exit.then, Exit.inBlock, ↓reduceIte, Nat.reduceEqDiff]
          exact ⟨IntKind.i64.wrap (g214 + 1), (Option.some.inj hM).symm, (IntKind.i64.wrap (g214 + 1)), rfl, (hS.meet [] (by decide) ⟨rfl, rfl, rfl, rfl, trivial⟩ trivial ⟨⟨2, rfl⟩, ⟨3, rfl⟩, trivial⟩)⟩
      · replace hM := cf hb255 hM
        refine c_f hS rfl hb255 ?_
        refine wp_exit ?_
        try simp only [Exit.then, Exit.inBlock, ↓reduceIte, Nat.reduceEqDiff]
        injection hM with hM
        subst hM
        have hr := hf1 _ rfl
        subst hr
        replace hMo1 := el_go hMo1
        have hM : ref23_SameList_j1 = some y := hMo1
        exact ⟨(hS.meet [] (by decide) trivial trivial trivial), hM⟩
    · rintro a w ⟨hS, hM⟩
      unfold ref23_SameList_j1 at hM
      refine wp_seq_k fun K37 hK37 => ?_
      refine r_list ?_
      refine wl rfl (ky (v := .bool true) hS (y_assign hS rfl) rfl rfl fun a hS => ?_)
      refine wpList_nil ?_
      try simp only [Exit.then, Exit.inBlock, ↓reduceIte, Nat.reduceEqDiff]
      refine hK37 _ _ ?_
      refine wp_ret ?_
      injection hM with hM
      subst hM
      try simp only [Exit.then, Exit.inBlock, ↓reduceIte, Nat.reduceEqDiff]
      refine ret_ok hS Tryd.results38 (res_tmp hS rfl res_nil) ?_
      exact rfl

noncomputable def ref32_Same (a_0 : DequeD) (b_1 : DequeD) : Option Bool := (ref23_SameList a_0.Keys b_1.Keys).bind fun u15 => some (u15)
set_option maxRecDepth 100000 in
set_option maxHeartbeats 4000000 in
theorem ref32_Same_c (T : Nat → Prop) (W0 : World) (hT : ∀ k, T k → k < W0.heap.size) (a_0 : DequeD) (b_1 : DequeD) (v1 : Value) (v2 : Value) (hv1 : SlR R_KeyD T W0 v1 a_0.Keys) (hv2 : SlR R_KeyD T W0 v2 b_1.Keys) (y : Bool) (hM : ref32_Same a_0 b_1 = some y) : Rets Tryd.prog No 19 [.agg #[v1], .agg #[v2]] W0 (fun v w' => v = .bool y) := by
  refine enter (c := _) Tryd.func19 rfl T 10 Tryd.ntmps19 hT rfl fun a hS => ?_
  replace hS := hS.fact (SlF R_KeyD v1 a_0.Keys) (SlR.dn hv1)
  replace hS := hS.fact (SlF R_KeyD v2 b_1.Keys) (SlR.dn hv2)
  unfold ref32_Same at hM
  refine wp_seq_k fun K3 hK3 => ?_
  refine r_list ?_
  refine wl rfl (k_box hS rfl (cs := [v1]) rfl rfl fun b9 hnb11 a w hk hS => ?_)
  refine wl rfl (k_box hS rfl (cs := [v2]) rfl rfl fun b12 hnb14 a w hk hS => ?_)
  refine wl rfl (ky (v := .bool false) hS (y_assign hS rfl) rfl rfl fun a hS => ?_)
  refine wpList_nil ?_
  try simp only [Exit.then, Exit.inBlock, ↓reduceIte, Nat.reduceEqDiff]
  refine hK3 _ _ ?_
  refine wp_seq_k fun K4 hK4 => ?_
  refine r_list ?_
  refine wl rfl (ky (v := .pointer (some ⟨b9, 0 + 0, none⟩)) hS (y_fld hS rfl fl24_0) rfl rfl fun a hS => ?_)
  refine wl rfl (ky (v := v1) hS (y_load hS rfl ty22 1 rfl id (us := [v1]) rfl rfl (fun _ => rfl)) rfl rfl fun a hS => ?_)
  refine wl rfl (ky (v := .pointer (some ⟨b12, 0 + 0, none⟩)) hS (y_fld hS rfl fl24_0) rfl rfl fun a hS => ?_)
  refine wl rfl (ky (v := v2) hS (y_load hS rfl ty22 0 rfl id (us := [v2]) rfl rfl (fun _ => rfl)) rfl rfl fun a hS => ?_)
  obtain ⟨u15, hu15, hM⟩ := bd hM
  refine wl rfl (k_call hS ci38 rfl rfl (ref23_SameList_c _ _ hS.dlt a_0.Keys b_1.Keys _ _ (hS.get 1 rfl) (hS.get 0 rfl) _ hu15) fun _ w hR a hk hA => ?_)
  have he := Eq.symm hR
  subst he
  have hS := hA [] (fun r hr => by cases hr) List.Pairwise.nil
  refine wl rfl (ky (v := .bool u15) hS (y_assign hS rfl) rfl rfl fun a hS => ?_)
  refine wpList_nil ?_
  try simp only [Exit.then, Exit.inBlock, ↓reduceIte, Nat.reduceEqDiff]
  refine hK4 _ _ ?_
  refine wp_ret ?_
  injection hM with hM
  subst hM
  try simp only [Exit.then, Exit.inBlock, ↓reduceIte, Nat.reduceEqDiff]
  refine ret_ok hS Tryd.results19 (res_tmp hS rfl res_nil) ?_
  exact rfl

noncomputable def ref32_Pop (d_0 : DequeD) : Option (DequeD × KeyD × Bool) := (ref32_Copy d_0).bind fun u71 => cond (((u71.Keys.length : Int) : Int) == 0) (some ((u71, (KeyD.mk 0 (ByteArray.mk #[])), false))) ((subI u71.Keys 0 (IntKind.i64.wrap ((u71.Keys.length : Int) - 1))).bind fun l111 => (getI u71.Keys (IntKind.i64.wrap ((u71.Keys.length : Int) - 1))).bind fun e116 => some (((DequeD.mk l111), e116, true)))
set_option maxRecDepth 100000 in
set_option maxHeartbeats 4000000 in
theorem ref32_Pop_c (T : Nat → Prop) (W0 : World) (hT : ∀ k, T k → k < W0.heap.size) (d_0 : DequeD) (v1 : Value) (hv1 : SlR R_KeyD T W0 v1 d_0.Keys) (y : DequeD × KeyD × Bool) (hM : ref32_Pop d_0 = some y) : Rets Tryd.prog No 21 [.agg #[v1]] W0 (fun v w' => ∃ (v2 : Value), v = .tuple #[.agg #[v2], .agg #[.int .i64 y.2.1.Kind, .string y.2.1.Text], .bool y.2.2] ∧ SlR R_KeyD (dT T []) w' v2 y.1.Keys) := by
  refine enter (c := _) Tryd.func21 rfl T 27 Tryd.ntmps21 hT rfl fun a hS => ?_
  replace hS := hS.fact (SlF R_KeyD v1 d_0.Keys) (SlR.dn hv1)
  unfold ref32_Pop at hM
  refine wp_seq_k fun K8 hK8 => ?_
  refine r_list ?_
  refine wl rfl (k_box hS rfl (cs := [v1]) rfl rfl fun b62 hnb64 a w hk hS => ?_)
  refine wl rfl (k_alloc hS ze24 rfl fun b65 hnb67 a w hk hS => ?_)
  refine wl rfl (k_alloc hS ze26 rfl fun b68 hnb70 a w hk hS => ?_)
  refine wl rfl (ky (v := .bool false) hS (y_assign hS rfl) rfl rfl fun a hS => ?_)
  refine wpList_nil ?_
  try simp only [Exit.then, Exit.inBlock, ↓reduceIte, Nat.reduceEqDiff]
  refine hK8 _ _ ?_
  refine wp_seq_k fun K9 hK9 => ?_
  refine r_list ?_
  refine wl rfl (ky (v := .agg #[v1]) hS (y_load hS rfl ty24 2 rfl id (us := [v1]) rfl rfl (fun h => by cases h)) rfl rfl fun a hS => ?_)
  obtain ⟨u71, hu71, hM⟩ := bd hM
  refine wl rfl (k_call hS ci54 rfl rfl (ref32_Copy_c _ _ hS.dlt d_0 _ (hS.get 0 rfl) _ hu71) fun _ w hR a hk hA => ?_)
  obtain ⟨vz72_2, clz72_3, he, ⟨hOvz72_2, hFvz72_2, hRvz72_2⟩⟩ := hR
  replace he := he.symm
  subst he
  have hS := hA [.own vz72_2 26 R_KeyD.size clz72_3] (adds1 ⟨hOvz72_2, by decide⟩ hFvz72_2) (pw1 _)
  replace hS := hS.fact (RowsF R_KeyD clz72_3 u71.Keys) (hRvz72_2.keep (Kt.refl _ _) (dT_dT _))
  refine wl rfl (k_store hS rfl rfl (us := [vz72_2]) rfl ty24 3 rfl rfl rfl (oc (own_one (hS.own _ (List.mem_of_getElem? (i := 0) rfl)).1) on) fun w hk hS => ?_)
  refine wpList_nil ?_
  try simp only [Exit.then, Exit.inBlock, ↓reduceIte, Nat.reduceEqDiff]
  refine hK9 _ _ ?_
  refine wp_seq_k fun K10 hK10 => ?_
  refine r_list ?_
  refine wl rfl (ky (v := .pointer (some ⟨b62, 0 + 0, none⟩)) hS (y_fld hS rfl fl24_0) rfl rfl fun a hS => ?_)
  refine wl rfl (ky (v := vz72_2) hS (y_load hS rfl ty22 3 rfl id (us := [vz72_2]) rfl rfl (fun _ => rfl)) rfl rfl fun a hS => ?_)
  refine wl rfl (ky (v := .int .i64 (u71.Keys.length : Int)) hS (y_leno (R := R_KeyD) (xs := u71.Keys) hS sl22 rfl 0 rfl 0 rfl) rfl rfl fun a hS => ?_)
  refine wl rfl (ky (v := .int .i64 (u71.Keys.length : Int)) hS (y_assign hS rfl) rfl rfl fun a hS => ?_)
  refine wpList_nil ?_
  try simp only [Exit.then, Exit.inBlock, ↓reduceIte, Nat.reduceEqDiff]
  refine hK10 _ _ ?_
  refine wp_seq_k fun K11 hK11 => ?_
  refine wp_seq_k fun K12 hK12 => ?_
  refine r_list ?_
  refine wl rfl (ky (v := .int .i64 (u71.Keys.length : Int)) hS (y_move hS rfl) rfl rfl fun a hS => ?_)
  refine wl rfl (ky (v := .bool (((u71.Keys.length : Int) : Int) == 0)) hS (y_int hS rfl rfl rfl) rfl rfl fun a hS => ?_)
  refine wpList_nil ?_
  try simp only [Exit.then, Exit.inBlock, ↓reduceIte, Nat.reduceEqDiff]
  refine hK12 _ _ ?_
  rcases bool2 (((u71.Keys.length : Int) : Int) == 0) with hb74 | hb74
  · replace hM := ct hb74 hM
    refine c_t hS rfl hb74 ?_
    refine wp_seq_k fun K13 hK13 => ?_
    refine r_list ?_
    refine wl rfl (ky (v := .agg #[vz72_2]) hS (y_load hS rfl ty24 3 rfl id (us := [vz72_2]) rfl rfl (fun h => by cases h)) rfl rfl fun a hS => ?_)
    refine wl rfl (ky (v := .agg #[.int .i64 0, .string (ByteArray.mk #[])]) hS (y_build (ps := []) hS pl26 ze26 rfl (us := []) trivial (ws := [.int .i64 0, .string (ByteArray.mk #[])]) rfl) rfl rfl fun a hS => ?_)
    refine wl rfl (k_store hS rfl rfl (us := [vz72_2]) rfl ty24 2 rfl rfl rfl (oc (own_one (hS.own _ (List.mem_of_getElem? (i := 0) rfl)).1) on) fun w hk hS => ?_)
    refine wl rfl (k_store hS rfl rfl (us := [.int .i64 0, .string (ByteArray.mk #[])]) rfl ty26 1 rfl rfl rfl (oc rfl (oc rfl on)) fun w hk hS => ?_)
    refine wl rfl (ky (v := .bool false) hS (y_assign hS rfl) rfl rfl fun a hS => ?_)
    refine wpList_nil ?_
    try simp only [Exit.then, Exit.inBlock, ↓reduceIte, Nat.reduceEqDiff]
    refine hK13 _ _ ?_
    refine wp_ret ?_
    replace hS := hS.freeze (R := R_KeyD) 0 rfl 0 rfl
    injection hM with hM
    subst hM
    try simp only [Exit.then, Exit.inBlock, ↓reduceIte, Nat.reduceEqDiff]
    refine ret_ok hS Tryd.results21 (res_cell hS rfl 1 rfl ty24 rfl (fun h => by cases h) (res_cell hS rfl 0 rfl ty26 rfl (fun h => by cases h) (res_tmp hS rfl res_nil))) ?_
    exact ⟨vz72_2, rfl, (SlR.up trivial (hS.get 0 rfl))⟩
  · replace hM := cf hb74 hM
    refine c_f hS rfl hb74 ?_
    refine wp_skip ?_
    try simp only [Exit.then, Exit.inBlock, ↓reduceIte, Nat.reduceEqDiff]
    refine hK11 _ _ ?_
    refine wp_seq_k fun K14 hK14 => ?_
    refine draws [(12, .blk (some b65)), (13, .blk (some b68))] hS mixed rfl (fun c a d v w h => by cases d <;> exact h) fun w hQ hS => ?_
    refine dy 0 (v := .pointer (some ⟨b62, 0 + 0, none⟩)) rfl (by kernel_rfl) (by kernel_rfl) (by kernel_rfl) rfl hQ hS (y_fld hS rfl fl24_0) rfl rfl rfl fun a hS => ?_
    refine dy (l := []) 1 (v := vz72_2) rfl (by kernel_rfl) (by kernel_rfl) (by kernel_rfl) (by kernel_rfl) hQ hS (y_load hS rfl ty22 3 rfl eo_nil (us := [vz72_2]) rfl rfl (fun _ => rfl)) rfl rfl rfl fun a hS => ?_
    refine dy 2 (v := .int .i64 (u71.Keys.length : Int)) rfl (by kernel_rfl) (by kernel_rfl) (by kernel_rfl) rfl hQ hS (y_move hS rfl) rfl rfl rfl fun a hS => ?_
    refine dy 3 (v := .int .i64 (IntKind.i64.wrap ((u71.Keys.length : Int) - 1))) rfl (by kernel_rfl) (by kernel_rfl) (by kernel_rfl) rfl hQ hS (y_int hS rfl rfl rfl) rfl rfl rfl fun a hS => ?_
    obtain ⟨l111, hl111, hM⟩ := bd hM
    obtain ⟨v112, hv113, hy114⟩ := d_view (R := R_KeyD) hS sl22 ty26 0 rfl 0 rfl hl111
    refine dy 4 (v := v112) rfl (by kernel_rfl) (by kernel_rfl) (by kernel_rfl) rfl hQ hS (hy114 (k1 := .i64) rfl (.inr ⟨rfl, rfl⟩) (.inl ⟨_, rfl, rfl⟩)) rfl rfl rfl fun a hS => ?_
    replace hS := hS.freeze (R := R_KeyD) 0 rfl 0 rfl
    replace hS := hS.fact (SlF R_KeyD v112 l111) (hv113 _ _ (hS.get 0 rfl))
    refine dy 5 (v := .agg #[v112]) rfl (by kernel_rfl) (by kernel_rfl) (by kernel_rfl) rfl hQ hS (y_build (ps := [(0, .tmp 19)]) hS pl24 ze24 rfl (us := [[v112]]) ⟨(cells1 (SlR.one ((hS.get 0 rfl) : SlR R_KeyD _ _ _ _))), trivial⟩ (ws := [v112]) rfl) rfl rfl rfl fun a hS => ?_
    refine dy 6 (v := .pointer (some ⟨b62, 0 + 0, none⟩)) rfl (by kernel_rfl) (by kernel_rfl) (by kernel_rfl) rfl hQ hS (y_fld hS rfl fl24_0) rfl rfl rfl fun a hS => ?_
    refine dy (l := [.blk (some b65)]) 7 (v := vz72_2) rfl (by kernel_rfl) (by kernel_rfl) (by kernel_rfl) (by kernel_rfl) hQ hS (y_load hS rfl ty22 2 rfl (eo_ne hS 2 rfl rfl 1 rfl rfl (by decide) eo_nil) (us := [vz72_2]) rfl rfl (fun _ => rfl)) rfl rfl rfl fun a hS => ?_
    refine dy 8 (v := .int .i64 (u71.Keys.length : Int)) rfl (by kernel_rfl) (by kernel_rfl) (by kernel_rfl) rfl hQ hS (y_move hS rfl) rfl rfl rfl fun a hS => ?_
    refine dy 9 (v := .int .i64 (IntKind.i64.wrap ((u71.Keys.length : Int) - 1))) rfl (by kernel_rfl) (by kernel_rfl) (by kernel_rfl) rfl hQ hS (y_int hS rfl rfl rfl) rfl rfl rfl fun a hS => ?_
    obtain ⟨e116, he116, hM⟩ := bd hM
    obtain ⟨b117, o118, cs120, hr119, hy122, hS⟩ := d_index (R := R_KeyD) hS sl22 ty26 1 rfl he116
    obtain rfl := hr119
    refine dy 10 (v := .pointer (some ⟨b117, o118, none⟩)) rfl (by kernel_rfl) (by kernel_rfl) (by kernel_rfl) rfl hQ hS (hy122 rfl rfl) rfl rfl rfl fun a hS => ?_
    refine dy (l := [.blk (some b65)]) 11 (v := .agg #[.int .i64 e116.Kind, .string e116.Text]) rfl (by kernel_rfl) (by kernel_rfl) (by kernel_rfl) (by kernel_rfl) hQ hS (y_loadc (k := 0) hS ty26 0 rfl rfl (es_in 1 rfl rfl es_nil) (us := [.int .i64 e116.Kind, .string e116.Text]) rfl rfl (fun h => by cases h)) rfl rfl rfl fun a hS => ?_
    refine wpE_one (i := 12) rfl (by kernel_rfl) rfl (k_store hS rfl rfl (us := [v112]) rfl ty24 1 rfl rfl rfl (oc (SlR.one ((hS.get 1 rfl) : SlR R_KeyD _ _ _ _)) on) fun w hk hS => ⟨stM rfl hk etBox, ?_⟩)
    refine wpE_one (i := 13) rfl (by kernel_rfl) rfl (k_store hS rfl rfl (us := [.int .i64 e116.Kind, .string e116.Text]) rfl ty26 0 rfl rfl rfl (oc rfl (oc rfl on)) fun w hk hS => ⟨stM rfl hk etBox, ?_⟩)
    refine dy 14 (v := .bool true) rfl (by kernel_rfl) (by kernel_rfl) (by kernel_rfl) rfl hQ hS (y_assign hS rfl) rfl rfl rfl fun a hS => ?_
    refine wpE_done (by kernel_rfl) ?_ _
    try simp only [Exit.then, Exit.inBlock, ↓reduceIte, Nat.reduceEqDiff]
    refine hK14 _ _ ?_
    refine wp_ret ?_
    injection hM with hM
    subst hM
    try simp only [Exit.then, Exit.inBlock, ↓reduceIte, Nat.reduceEqDiff]
    refine ret_ok hS Tryd.results21 (res_cell hS rfl 1 rfl ty24 rfl (fun h => by cases h) (res_cell hS rfl 0 rfl ty26 rfl (fun h => by cases h) (res_tmp hS rfl res_nil))) ?_
    exact ⟨v112, rfl, (SlR.up trivial (hS.get 1 rfl))⟩

noncomputable def ref32_Steal (d_0 : DequeD) : Option (DequeD × KeyD × Bool) := (ref32_Copy d_0).bind fun u71 => cond (((u71.Keys.length : Int) : Int) == 0) (some ((u71, (KeyD.mk 0 (ByteArray.mk #[])), false))) ((subI u71.Keys 1 u71.Keys.length).bind fun l111 => (getI u71.Keys 0).bind fun e116 => some (((DequeD.mk l111), e116, true)))
set_option maxRecDepth 100000 in
set_option maxHeartbeats 4000000 in
theorem ref32_Steal_c (T : Nat → Prop) (W0 : World) (hT : ∀ k, T k → k < W0.heap.size) (d_0 : DequeD) (v1 : Value) (hv1 : SlR R_KeyD T W0 v1 d_0.Keys) (y : DequeD × KeyD × Bool) (hM : ref32_Steal d_0 = some y) : Rets Tryd.prog No 23 [.agg #[v1]] W0 (fun v w' => ∃ (v2 : Value), v = .tuple #[.agg #[v2], .agg #[.int .i64 y.2.1.Kind, .string y.2.1.Text], .bool y.2.2] ∧ SlR R_KeyD (dT T []) w' v2 y.1.Keys) := by
  refine enter (c := _) Tryd.func23 rfl T 21 Tryd.ntmps23 hT rfl fun a hS => ?_
  replace hS := hS.fact (SlF R_KeyD v1 d_0.Keys) (SlR.dn hv1)
  unfold ref32_Steal at hM
  refine wp_seq_k fun K7 hK7 => ?_
  refine r_list ?_
  refine wl rfl (k_box hS rfl (cs := [v1]) rfl rfl fun b62 hnb64 a w hk hS => ?_)
  refine wl rfl (k_alloc hS ze24 rfl fun b65 hnb67 a w hk hS => ?_)
  refine wl rfl (k_alloc hS ze26 rfl fun b68 hnb70 a w hk hS => ?_)
  refine wl rfl (ky (v := .bool false) hS (y_assign hS rfl) rfl rfl fun a hS => ?_)
  refine wpList_nil ?_
  try simp only [Exit.then, Exit.inBlock, ↓reduceIte, Nat.reduceEqDiff]
  refine hK7 _ _ ?_
  refine wp_seq_k fun K8 hK8 => ?_
  refine r_list ?_
  refine wl rfl (ky (v := .agg #[v1]) hS (y_load hS rfl ty24 2 rfl id (us := [v1]) rfl rfl (fun h => by cases h)) rfl rfl fun a hS => ?_)
  obtain ⟨u71, hu71, hM⟩ := bd hM
  refine wl rfl (k_call hS ci54 rfl rfl (ref32_Copy_c _ _ hS.dlt d_0 _ (hS.get 0 rfl) _ hu71) fun _ w hR a hk hA => ?_)
  obtain ⟨vz72_2, clz72_3, he, ⟨hOvz72_2, hFvz72_2, hRvz72_2⟩⟩ := hR
  replace he := he.symm
  subst he
  have hS := hA [.own vz72_2 26 R_KeyD.size clz72_3] (adds1 ⟨hOvz72_2, by decide⟩ hFvz72_2) (pw1 _)
  replace hS := hS.fact (RowsF R_KeyD clz72_3 u71.Keys) (hRvz72_2.keep (Kt.refl _ _) (dT_dT _))
  refine wl rfl (k_store hS rfl rfl (us := [vz72_2]) rfl ty24 3 rfl rfl rfl (oc (own_one (hS.own _ (List.mem_of_getElem? (i := 0) rfl)).1) on) fun w hk hS => ?_)
  refine wpList_nil ?_
  try simp only [Exit.then, Exit.inBlock, ↓reduceIte, Nat.reduceEqDiff]
  refine hK8 _ _ ?_
  refine wp_seq_k fun K9 hK9 => ?_
  refine wp_seq_k fun K10 hK10 => ?_
  refine r_list ?_
  refine wl rfl (ky (v := .pointer (some ⟨b62, 0 + 0, none⟩)) hS (y_fld hS rfl fl24_0) rfl rfl fun a hS => ?_)
  refine wl rfl (ky (v := vz72_2) hS (y_load hS rfl ty22 3 rfl id (us := [vz72_2]) rfl rfl (fun _ => rfl)) rfl rfl fun a hS => ?_)
  refine wl rfl (ky (v := .int .i64 (u71.Keys.length : Int)) hS (y_leno (R := R_KeyD) (xs := u71.Keys) hS sl22 rfl 0 rfl 0 rfl) rfl rfl fun a hS => ?_)
  refine wl rfl (ky (v := .bool (((u71.Keys.length : Int) : Int) == 0)) hS (y_int hS rfl rfl rfl) rfl rfl fun a hS => ?_)
  refine wpList_nil ?_
  try simp only [Exit.then, Exit.inBlock, ↓reduceIte, Nat.reduceEqDiff]
  refine hK10 _ _ ?_
  rcases bool2 (((u71.Keys.length : Int) : Int) == 0) with hb74 | hb74
  · replace hM := ct hb74 hM
    refine c_t hS rfl hb74 ?_
    refine wp_seq_k fun K11 hK11 => ?_
    refine r_list ?_
    refine wl rfl (ky (v := .agg #[vz72_2]) hS (y_load hS rfl ty24 3 rfl id (us := [vz72_2]) rfl rfl (fun h => by cases h)) rfl rfl fun a hS => ?_)
    refine wl rfl (ky (v := .agg #[.int .i64 0, .string (ByteArray.mk #[])]) hS (y_build (ps := []) hS pl26 ze26 rfl (us := []) trivial (ws := [.int .i64 0, .string (ByteArray.mk #[])]) rfl) rfl rfl fun a hS => ?_)
    refine wl rfl (k_store hS rfl rfl (us := [vz72_2]) rfl ty24 2 rfl rfl rfl (oc (own_one (hS.own _ (List.mem_of_getElem? (i := 0) rfl)).1) on) fun w hk hS => ?_)
    refine wl rfl (k_store hS rfl rfl (us := [.int .i64 0, .string (ByteArray.mk #[])]) rfl ty26 1 rfl rfl rfl (oc rfl (oc rfl on)) fun w hk hS => ?_)
    refine wl rfl (ky (v := .bool false) hS (y_assign hS rfl) rfl rfl fun a hS => ?_)
    refine wpList_nil ?_
    try simp only [Exit.then, Exit.inBlock, ↓reduceIte, Nat.reduceEqDiff]
    refine hK11 _ _ ?_
    refine wp_ret ?_
    replace hS := hS.freeze (R := R_KeyD) 0 rfl 0 rfl
    injection hM with hM
    subst hM
    try simp only [Exit.then, Exit.inBlock, ↓reduceIte, Nat.reduceEqDiff]
    refine ret_ok hS Tryd.results23 (res_cell hS rfl 1 rfl ty24 rfl (fun h => by cases h) (res_cell hS rfl 0 rfl ty26 rfl (fun h => by cases h) (res_tmp hS rfl res_nil))) ?_
    exact ⟨vz72_2, rfl, (SlR.up trivial (hS.get 0 rfl))⟩
  · replace hM := cf hb74 hM
    refine c_f hS rfl hb74 ?_
    refine wp_skip ?_
    try simp only [Exit.then, Exit.inBlock, ↓reduceIte, Nat.reduceEqDiff]
    refine hK9 _ _ ?_
    refine wp_seq_k fun K12 hK12 => ?_
    refine draws [(8, .blk (some b65)), (9, .blk (some b68))] hS mixed rfl (fun c a d v w h => by cases d <;> exact h) fun w hQ hS => ?_
    refine dy 0 (v := .pointer (some ⟨b62, 0 + 0, none⟩)) rfl (by kernel_rfl) (by kernel_rfl) (by kernel_rfl) rfl hQ hS (y_fld hS rfl fl24_0) rfl rfl rfl fun a hS => ?_
    refine dy (l := []) 1 (v := vz72_2) rfl (by kernel_rfl) (by kernel_rfl) (by kernel_rfl) (by kernel_rfl) hQ hS (y_load hS rfl ty22 3 rfl eo_nil (us := [vz72_2]) rfl rfl (fun _ => rfl)) rfl rfl rfl fun a hS => ?_
    obtain ⟨l111, hl111, hM⟩ := bd hM
    obtain ⟨v112, hv113, hy114⟩ := d_view (R := R_KeyD) hS sl22 ty26 0 rfl 0 rfl hl111
    refine dy 2 (v := v112) rfl (by kernel_rfl) (by kernel_rfl) (by kernel_rfl) rfl hQ hS (hy114 (k2 := .i64) rfl (.inl ⟨_, rfl, rfl⟩) (.inr ⟨rfl, rfl⟩)) rfl rfl rfl fun a hS => ?_
    replace hS := hS.freeze (R := R_KeyD) 0 rfl 0 rfl
    replace hS := hS.fact (SlF R_KeyD v112 l111) (hv113 _ _ (hS.get 0 rfl))
    refine dy 3 (v := .agg #[v112]) rfl (by kernel_rfl) (by kernel_rfl) (by kernel_rfl) rfl hQ hS (y_build (ps := [(0, .tmp 15)]) hS pl24 ze24 rfl (us := [[v112]]) ⟨(cells1 (SlR.one ((hS.get 0 rfl) : SlR R_KeyD _ _ _ _))), trivial⟩ (ws := [v112]) rfl) rfl rfl rfl fun a hS => ?_
    refine dy 4 (v := .pointer (some ⟨b62, 0 + 0, none⟩)) rfl (by kernel_rfl) (by kernel_rfl) (by kernel_rfl) rfl hQ hS (y_fld hS rfl fl24_0) rfl rfl rfl fun a hS => ?_
    refine dy (l := [.blk (some b65)]) 5 (v := vz72_2) rfl (by kernel_rfl) (by kernel_rfl) (by kernel_rfl) (by kernel_rfl) hQ hS (y_load hS rfl ty22 2 rfl (eo_ne hS 2 rfl rfl 1 rfl rfl (by decide) eo_nil) (us := [vz72_2]) rfl rfl (fun _ => rfl)) rfl rfl rfl fun a hS => ?_
    obtain ⟨e116, he116, hM⟩ := bd hM
    obtain ⟨b117, o118, cs120, hr119, hy122, hS⟩ := d_index (R := R_KeyD) hS sl22 ty26 1 rfl he116
    obtain rfl := hr119
    refine dy 6 (v := .pointer (some ⟨b117, o118, none⟩)) rfl (by kernel_rfl) (by kernel_rfl) (by kernel_rfl) rfl hQ hS (hy122 rfl rfl) rfl rfl rfl fun a hS => ?_
    refine dy (l := [.blk (some b65)]) 7 (v := .agg #[.int .i64 e116.Kind, .string e116.Text]) rfl (by kernel_rfl) (by kernel_rfl) (by kernel_rfl) (by kernel_rfl) hQ hS (y_loadc (k := 0) hS ty26 0 rfl rfl (es_in 1 rfl rfl es_nil) (us := [.int .i64 e116.Kind, .string e116.Text]) rfl rfl (fun h => by cases h)) rfl rfl rfl fun a hS => ?_
    refine wpE_one (i := 8) rfl (by kernel_rfl) rfl (k_store hS rfl rfl (us := [v112]) rfl ty24 1 rfl rfl rfl (oc (SlR.one ((hS.get 1 rfl) : SlR R_KeyD _ _ _ _)) on) fun w hk hS => ⟨stM rfl hk etBox, ?_⟩)
    refine wpE_one (i := 9) rfl (by kernel_rfl) rfl (k_store hS rfl rfl (us := [.int .i64 e116.Kind, .string e116.Text]) rfl ty26 0 rfl rfl rfl (oc rfl (oc rfl on)) fun w hk hS => ⟨stM rfl hk etBox, ?_⟩)
    refine dy 10 (v := .bool true) rfl (by kernel_rfl) (by kernel_rfl) (by kernel_rfl) rfl hQ hS (y_assign hS rfl) rfl rfl rfl fun a hS => ?_
    refine wpE_done (by kernel_rfl) ?_ _
    try simp only [Exit.then, Exit.inBlock, ↓reduceIte, Nat.reduceEqDiff]
    refine hK12 _ _ ?_
    refine wp_ret ?_
    injection hM with hM
    subst hM
    try simp only [Exit.then, Exit.inBlock, ↓reduceIte, Nat.reduceEqDiff]
    refine ret_ok hS Tryd.results23 (res_cell hS rfl 1 rfl ty24 rfl (fun h => by cases h) (res_cell hS rfl 0 rfl ty26 rfl (fun h => by cases h) (res_tmp hS rfl res_nil))) ?_
    exact ⟨v112, rfl, (SlR.up trivial (hS.get 1 rfl))⟩

noncomputable def ref32_Deal_j1 (out1033 : (List DequeD)) : Option ((List DequeD) × Int) := some ((out1033, 0))
noncomputable def ref32_Deal_j2 (workers_ : Int) (out1188 : (List DequeD)) (g1190 : Int) (e1428 : Int) (d1429 : (List KeyD)) : Option (Fl ((List DequeD) × Int) (Fl ((List DequeD)) ((List DequeD) × Int))) := cond ((e1428 : Int) != 0) (some (.out (.out ([], e1428)))) (gd ((workers_ : Int) != 0) <| (getI out1188 (Int.tmod g1190 workers_)).bind fun e1447 => some (.go ((out1188.set (Int.toNat (Int.tmod g1190 workers_)) (DequeD.mk d1429)), IntKind.i64.wrap (g1190 + 1))))
noncomputable def ref32_Deal_l3 (l_0 : (List KeyD)) (workers_ : Int) (out1188 : (List DequeD)) (g1190 : Int) : Option (Fl ((List DequeD) × Int) (Fl ((List DequeD)) ((List DequeD) × Int))) := cond (decide ((g1190 : Int) < (l_0.length : Int))) ((getI l_0 g1190).bind fun e1345 => gd ((workers_ : Int) != 0) <| (getI out1188 (Int.tmod g1190 workers_)).bind fun e1477 => (ref32_Push e1477 e1345).bind fun u1487 => ref32_Deal_j2 workers_ out1188 g1190 u1487.2 u1487.1.Keys) (some (.out (.go out1188)))
noncomputable def ref32_Deal_j4 (l_0 : (List KeyD)) (workers_ : Int) : Option ((List DequeD) × Int) := gd (decide (0 ≤ workers_)) <| gd (roomB (Int.toNat workers_)) <| (loop (fun s : (List DequeD) × Int => ref32_Deal_l3 l_0 workers_ s.1 s.2) ((List.replicate (Int.toNat workers_) (DequeD.mk [])), 0)).bind fun r => Fl.el r (fun s => ref32_Deal_j1 s) (fun y => some (y))
noncomputable def ref32_Deal_l5 (l_0 : (List KeyD)) (g1508 : Int) : Option (Fl (Int) (Fl (Unit) ((List DequeD) × Int))) := cond (decide ((g1508 : Int) < (l_0.length : Int))) ((getI l_0 g1508).bind fun e1524 => (ref23_Valid e1524).bind fun u1533 => cond (!(u1533)) (some (.out (.out ([], 40)))) (some (.go (IntKind.i64.wrap (g1508 + 1))))) (some (.out (.go ())))
noncomputable def ref32_Deal (l_0 : (List KeyD)) (workers_ : Int) : Option ((List DequeD) × Int) := cond (decide ((workers_ : Int) < 1)) (some (([], 48))) (cond (decide ((6 : Int) < workers_)) (some (([], 48))) ((loop (fun s : Int => ref32_Deal_l5 l_0 s) 0).bind fun r => Fl.el r (fun s => ref32_Deal_j4 l_0 workers_) (fun y => some (y))))
set_option maxRecDepth 100000 in
set_option maxHeartbeats 4000000 in
theorem ref32_Deal_c (T : Nat → Prop) (W0 : World) (hT : ∀ k, T k → k < W0.heap.size) (l_0 : (List KeyD)) (workers_ : Int) (v1 : Value) (hv1 : SlR R_KeyD T W0 v1 l_0) (y : (List DequeD) × Int) (hM : ref32_Deal l_0 workers_ = some y) : Rets Tryd.prog No 25 [v1, .int .i64 workers_] W0 (fun v w' => ∃ (v2 : Value) (cl3 : List Value), v = .tuple #[v2, .int .i64 y.2] ∧ OwnR R_DequeD T W0 w' [.own v2 24 R_DequeD.size cl3] 24 v2 cl3 y.1) := by
  refine enter (c := _) Tryd.func25 rfl T 60 Tryd.ntmps25 hT rfl fun a hS => ?_
  replace hS := hS.fact (SlF R_KeyD v1 l_0) (SlR.dn hv1)
  unfold ref32_Deal at hM
  refine wp_seq_k fun K58 hK58 => ?_
  refine r_list ?_
  refine wl rfl (ky (v := .slice none 0 0) hS (y_assign hS rfl) rfl rfl fun a hS => ?_)
  refine wl rfl (ky (v := .int .i64 0) hS (y_assign hS rfl) rfl rfl fun a hS => ?_)
  refine wpList_nil ?_
  try simp only [Exit.then, Exit.inBlock, ↓reduceIte, Nat.reduceEqDiff]
  refine hK58 _ _ ?_
  refine wp_seq_k fun K59 hK59 => ?_
  refine wp_seq_k fun K60 hK60 => ?_
  refine r_list ?_
  refine wl rfl (ky (v := .int .i64 workers_) hS (y_move hS rfl) rfl rfl fun a hS => ?_)
  refine wl rfl (ky (v := .bool (decide ((workers_ : Int) < 1))) hS (y_int hS rfl rfl rfl) rfl rfl fun a hS => ?_)
  refine wl rfl (ky (v := .bool (decide ((workers_ : Int) < 1))) hS (y_move hS rfl) rfl rfl fun a hS => ?_)
  rcases bool2 (decide ((workers_ : Int) < 1)) with hb688 | hb688
  · replace hM := ct hb688 hM
    refine wn hS rfl rfl rfl hb688 rfl rfl fun a hS => ?_
    refine wn hS rfl rfl rfl hb688 rfl rfl fun a hS => ?_
    refine wl rfl (ky (v := .bool true) hS (y_pickt hS rfl hb688 rfl) rfl rfl fun a hS => ?_)
    refine wpList_nil ?_
    try simp only [Exit.then, Exit.inBlock, ↓reduceIte, Nat.reduceEqDiff]
    refine hK60 _ _ ?_
    refine c_t hS rfl rfl ?_
    refine wp_seq_k fun K61 hK61 => ?_
    refine r_list ?_
    refine wl rfl (ky (v := .slice none 0 0) hS (y_assign hS rfl) rfl rfl fun a hS => ?_)
    refine wl rfl (ky (v := .int .i64 48) hS (y_assign hS rfl) rfl rfl fun a hS => ?_)
    refine wpList_nil ?_
    try simp only [Exit.then, Exit.inBlock, ↓reduceIte, Nat.reduceEqDiff]
    refine hK61 _ _ ?_
    refine wp_ret ?_
    injection hM with hM
    subst hM
    try simp only [Exit.then, Exit.inBlock, ↓reduceIte, Nat.reduceEqDiff]
    refine ret_ok hS Tryd.results25 (res_tmp hS rfl (res_tmp hS rfl res_nil)) ?_
    exact ⟨.slice none 0 0, [], rfl, ret_nil _ _ _ _ _ _⟩
  · replace hM := cf hb688 hM
    refine wg hS rfl rfl rfl hb688 (ky (v := .int .i64 workers_) hS (y_move hS rfl) rfl rfl fun a hS => ?_)
    refine wg hS rfl rfl rfl hb688 (ky (v := .bool (decide ((6 : Int) < workers_))) hS (y_int hS rfl rfl rfl) rfl rfl fun a hS => ?_)
    refine wl rfl (ky (v := .bool (decide ((6 : Int) < workers_))) hS (y_pickf hS rfl hb688 rfl) rfl rfl fun a hS => ?_)
    refine wpList_nil ?_
    try simp only [Exit.then, Exit.inBlock, ↓reduceIte, Nat.reduceEqDiff]
    refine hK60 _ _ ?_
    rcases bool2 (decide ((6 : Int) < workers_)) with hb689 | hb689
    · replace hM := ct hb689 hM
      refine c_t hS rfl hb689 ?_
      refine wp_seq_k fun K62 hK62 => ?_
      refine r_list ?_
      refine wl rfl (ky (v := .slice none 0 0) hS (y_assign hS rfl) rfl rfl fun a hS => ?_)
      refine wl rfl (ky (v := .int .i64 48) hS (y_assign hS rfl) rfl rfl fun a hS => ?_)
      refine wpList_nil ?_
      try simp only [Exit.then, Exit.inBlock, ↓reduceIte, Nat.reduceEqDiff]
      refine hK62 _ _ ?_
      refine wp_ret ?_
      injection hM with hM
      subst hM
      try simp only [Exit.then, Exit.inBlock, ↓reduceIte, Nat.reduceEqDiff]
      refine ret_ok hS Tryd.results25 (res_tmp hS rfl (res_tmp hS rfl res_nil)) ?_
      exact ⟨.slice none 0 0, [], rfl, ret_nil _ _ _ _ _ _⟩
    · replace hM := cf hb689 hM
      refine c_f hS rfl hb689 ?_
      refine wp_skip ?_
      try simp only [Exit.then, Exit.inBlock, ↓reduceIte, Nat.reduceEqDiff]
      refine hK59 _ _ ?_
      refine seq_j (J := fun a w => St W0 No T 60 [(0, v1), (1, .int .i64 workers_)] [] [SlF R_KeyD v1 l_0] a w ∧ ref32_Deal_j4 l_0 workers_ = some y) ?_ ?_
      · skip
        refine wp_seq_k fun K115 hK115 => ?_
        refine r_list ?_
        refine wl rfl (ky (v := v1) hS (y_move hS rfl) rfl rfl fun a hS => ?_)
        refine wl rfl (ky (v := .int .i64 (l_0.length : Int)) hS (y_len (R := R_KeyD) (xs := l_0) hS sl22 rfl 0 rfl) rfl rfl fun a hS => ?_)
        refine wl rfl (ky (v := .int .i64 0) hS (y_move hS rfl) rfl rfl fun a hS => ?_)
        refine wpList_nil ?_
        try simp only [Exit.then, Exit.inBlock, ↓reduceIte, Nat.reduceEqDiff]
        refine hK115 _ _ ?_
        refine wp_block ?_
        obtain ⟨r1, hl1, hMo1⟩ := bd hM
        refine wp_lp (fun s : Int => ref32_Deal_l5 l_0 s) (fun s a w => ∃ (g1508 : Int), g1508 = s ∧ St W0 No T 60 [(0, v1), (1, .int .i64 workers_), (19, v1), (20, .int .i64 (l_0.length : Int)), (21, .int .i64 g1508)] [] [SlF R_KeyD v1 l_0] a w) hl1 ⟨0, rfl, (hS.meet [] (by decide) ⟨rfl, rfl, rfl, rfl, rfl, trivial⟩ trivial ⟨⟨0, rfl⟩, trivial⟩)⟩ ?_
        rintro s a w f1 ⟨g1508, rfl, hS⟩ hM hf1
        have hM : ref32_Deal_l5 l_0 g1508 = some f1 := hM
        unfold ref32_Deal_l5 at hM
        refine wp_seq_k fun K128 hK128 => ?_
        refine r_list ?_
        refine wl rfl (ky (v := .bool (decide ((g1508 : Int) < (l_0.length : Int)))) hS (y_int hS rfl rfl rfl) rfl rfl fun a hS => ?_)
        refine wpList_nil ?_
        try simp only [Exit.then, Exit.inBlock, ↓reduceIte, Nat.reduceEqDiff]
        refine hK128 _ _ ?_
        refine wp_seq_k fun K129 hK129 => ?_
        rcases bool2 (decide ((g1508 : Int) < (l_0.length : Int))) with hb1523 | hb1523
        · replace hM := ct hb1523 hM
          refine c_t hS rfl hb1523 ?_
          refine wp_skip ?_
          try simp only [Exit.then, Exit.inBlock, ↓reduceIte, Nat.reduceEqDiff]
          refine hK129 _ _ ?_
          refine wp_seq_k fun K130 hK130 => ?_
          refine wp_block ?_
          refine wp_seq_k fun K131 hK131 => ?_
          refine r_list ?_
          obtain ⟨e1524, he1524, hM⟩ := bd hM
          refine wl rfl (k_index (R := R_KeyD) hS sl22 ty26 rfl rfl 0 rfl he1524 rfl fun b1525 o1526 cs1528 hr1527 a hS => ?_)
          obtain rfl := hr1527
          refine wl rfl (ky (v := .agg #[.int .i64 e1524.Kind, .string e1524.Text]) hS (y_loadc (k := 0) hS ty26 0 rfl rfl (fun _ h => h.elim) (us := [.int .i64 e1524.Kind, .string e1524.Text]) rfl rfl (fun h => by cases h)) rfl rfl fun a hS => ?_)
          refine wl rfl (k_alloc hS ze26 rfl fun b1530 hnb1532 a w hk hS => ?_)
          refine wl rfl (k_store hS rfl rfl (us := [.int .i64 e1524.Kind, .string e1524.Text]) rfl ty26 0 rfl rfl rfl (oc rfl (oc rfl on)) fun w hk hS => ?_)
          refine wpList_nil ?_
          try simp only [Exit.then, Exit.inBlock, ↓reduceIte, Nat.reduceEqDiff]
          refine hK131 _ _ ?_
          refine wp_seq_k fun K132 hK132 => ?_
          refine r_list ?_
          refine wl rfl (ky (v := .agg #[.int .i64 e1524.Kind, .string e1524.Text]) hS (y_load hS rfl ty26 0 rfl id (us := [.int .i64 e1524.Kind, .string e1524.Text]) rfl rfl (fun h => by cases h)) rfl rfl fun a hS => ?_)
          obtain ⟨u1533, hu1533, hM⟩ := bd hM
          refine wl rfl (k_call hS ci55 rfl rfl (ref23_Valid_c _ _ hS.dlt e1524 _ hu1533) fun _ w hR a hk hA => ?_)
          have he := Eq.symm hR
          subst he
          have hS := hA [] (fun r hr => by cases hr) List.Pairwise.nil
          refine wl rfl (ky (v := .bool (!(u1533))) hS (y_not hS rfl) rfl rfl fun a hS => ?_)
          refine wpList_nil ?_
          try simp only [Exit.then, Exit.inBlock, ↓reduceIte, Nat.reduceEqDiff]
          refine hK132 _ _ ?_
          rcases bool2 (!(u1533)) with hb1535 | hb1535
          · replace hM := ct hb1535 hM
            refine c_t hS rfl hb1535 ?_
            refine wp_seq_k fun K133 hK133 => ?_
            refine r_list ?_
            refine wl rfl (ky (v := .slice none 0 0) hS (y_assign hS rfl) rfl rfl fun a hS => ?_)
            refine wl rfl (ky (v := .int .i64 40) hS (y_assign hS rfl) rfl rfl fun a hS => ?_)
            refine wpList_nil ?_
            try simp only [Exit.then, Exit.inBlock, ↓reduceIte, Nat.reduceEqDiff]
            refine hK133 _ _ ?_
            refine wp_ret ?_
            injection hM with hM
            subst hM
            have hr := hf1 _ rfl
            subst hr
            replace hMo1 := el_out hMo1
            have hM := hMo1
            injection hM with hM
            subst hM
            try simp only [Exit.then, Exit.inBlock, ↓reduceIte, Nat.reduceEqDiff]
            refine ret_ok hS Tryd.results25 (res_tmp hS rfl (res_tmp hS rfl res_nil)) ?_
            exact ⟨.slice none 0 0, [], rfl, ret_nil _ _ _ _ _ _⟩
          · replace hM := cf hb1535 hM
            refine c_f hS rfl hb1535 ?_
            refine wp_skip ?_
            try simp only [Exit.then, Exit.inBlock, ↓reduceIte, Nat.reduceEqDiff]
            refine hK130 _ _ ?_
            refine r_list ?_
            refine wl rfl (ky (v := .int .i64 (IntKind.i64.wrap (g1508 + 1))) hS (y_int hS rfl rfl rfl) rfl rfl fun a hS => ?_)
            refine wl rfl (ky (v := .int .i64 (IntKind.i64.wrap (g1508 + 1))) hS (y_move hS rfl) rfl rfl fun a hS => ?_)
            refine wpList_nil ?_
            try simp only [Exit.then, Exit.inBlock, ↓reduceIte, Nat.reduceEqDiff]
            exact ⟨IntKind.i64.wrap (g1508 + 1), (Option.some.inj hM).symm, (IntKind.i64.wrap (g1508 + 1)), rfl, (hS.meet [] (by decide) ⟨rfl, rfl, rfl, rfl, rfl, trivial⟩ trivial ⟨⟨1, rfl⟩, trivial⟩)⟩
        · replace hM := cf hb1523 hM
          refine c_f hS rfl hb1523 ?_
          refine wp_exit ?_
          try simp only [Exit.then, Exit.inBlock, ↓reduceIte, Nat.reduceEqDiff]
          injection hM with hM
          subst hM
          have hr := hf1 _ rfl
          subst hr
          replace hMo1 := el_go hMo1
          have hM : ref32_Deal_j4 l_0 workers_ = some y := hMo1
          exact ⟨(hS.meet [] (by decide) ⟨rfl, rfl, trivial⟩ trivial ⟨⟨0, rfl⟩, trivial⟩), hM⟩
      · rintro a w ⟨hS, hM⟩
        unfold ref32_Deal_j4 at hM
        refine wp_seq_k fun K76 hK76 => ?_
        refine r_list ?_
        refine wl rfl (ky (v := .int .i64 workers_) hS (y_move hS rfl) rfl rfl fun a hS => ?_)
        obtain ⟨hg719, hM⟩ := gd_some hM
        obtain ⟨hg720, hM⟩ := gd_some hM
        refine wl rfl (k_make (R := R_DequeD) (z0 := (DequeD.mk [])) hS el30 ze24 (by decide) rfl rfl hg719 hg720 (⟨_, rfl, SlR.nil_ _ _ _⟩) rfl fun v721 cl722 a w hk hS => ?_)
        refine wl rfl (ky (v := v721) hS (y_assign hS rfl) rfl rfl fun a hS => ?_)
        refine wpList_nil ?_
        try simp only [Exit.then, Exit.inBlock, ↓reduceIte, Nat.reduceEqDiff]
        refine hK76 _ _ ?_
        refine seq_j (J := fun a w => ∃ (out1033 : (List DequeD)) (cl1034 : (List Value)), St W0 No T 60 [(8, v721)] [.own v721 24 R_DequeD.size cl1034] [RowsF R_DequeD cl1034 out1033] a w ∧ ref32_Deal_j1 out1033 = some y) ?_ ?_
        · skip
          refine wp_seq_k fun K93 hK93 => ?_
          refine r_list ?_
          refine wl rfl (ky (v := v1) hS (y_move hS rfl) rfl rfl fun a hS => ?_)
          refine wl rfl (ky (v := .int .i64 (l_0.length : Int)) hS (y_len (R := R_KeyD) (xs := l_0) hS sl22 rfl 1 rfl) rfl rfl fun a hS => ?_)
          refine wl rfl (ky (v := .int .i64 0) hS (y_move hS rfl) rfl rfl fun a hS => ?_)
          refine wpList_nil ?_
          try simp only [Exit.then, Exit.inBlock, ↓reduceIte, Nat.reduceEqDiff]
          refine hK93 _ _ ?_
          refine wp_block ?_
          obtain ⟨r1, hl1, hMo1⟩ := bd hM
          refine wp_lp (fun s : (List DequeD) × Int => ref32_Deal_l3 l_0 workers_ s.1 s.2) (fun s a w => ∃ (out1188 : (List DequeD)) (g1190 : Int) (cl1189 : (List Value)), (out1188, g1190) = s ∧ St W0 No T 60 [(1, .int .i64 workers_), (8, v721), (31, v1), (32, .int .i64 (l_0.length : Int)), (33, .int .i64 g1190)] [.own v721 24 R_DequeD.size cl1189] [RowsF R_DequeD cl1189 out1188, SlF R_KeyD v1 l_0] a w) hl1 ⟨(List.replicate (Int.toNat workers_) (DequeD.mk [])), 0, cl722, rfl, (hS.meet [0] (by decide) ⟨rfl, rfl, rfl, rfl, rfl, trivial⟩ ⟨rfl, trivial⟩ ⟨⟨0, rfl⟩, ⟨1, rfl⟩, trivial⟩)⟩ ?_
          rintro s a w f1 ⟨out1188, g1190, cl1189, rfl, hS⟩ hM hf1
          have hM : ref32_Deal_l3 l_0 workers_ out1188 g1190 = some f1 := hM
          unfold ref32_Deal_l3 at hM
          refine wp_seq_k fun K108 hK108 => ?_
          refine r_list ?_
          refine wl rfl (ky (v := .bool (decide ((g1190 : Int) < (l_0.length : Int)))) hS (y_int hS rfl rfl rfl) rfl rfl fun a hS => ?_)
          refine wpList_nil ?_
          try simp only [Exit.then, Exit.inBlock, ↓reduceIte, Nat.reduceEqDiff]
          refine hK108 _ _ ?_
          refine wp_seq_k fun K109 hK109 => ?_
          rcases bool2 (decide ((g1190 : Int) < (l_0.length : Int))) with hb1344 | hb1344
          · replace hM := ct hb1344 hM
            refine c_t hS rfl hb1344 ?_
            refine wp_skip ?_
            try simp only [Exit.then, Exit.inBlock, ↓reduceIte, Nat.reduceEqDiff]
            refine hK109 _ _ ?_
            refine wp_seq_k fun K110 hK110 => ?_
            refine wp_block ?_
            refine wp_seq_k fun K111 hK111 => ?_
            refine r_list ?_
            refine wl rfl (ky (v := .int .i64 g1190) hS (y_move hS rfl) rfl rfl fun a hS => ?_)
            obtain ⟨e1345, he1345, hM⟩ := bd hM
            refine wl rfl (k_index (R := R_KeyD) hS sl22 ty26 rfl rfl 1 rfl he1345 rfl fun b1346 o1347 cs1349 hr1348 a hS => ?_)
            obtain rfl := hr1348
            refine wl rfl (ky (v := .agg #[.int .i64 e1345.Kind, .string e1345.Text]) hS (y_loadc (k := 0) hS ty26 0 rfl rfl (fun _ h => h.elim) (us := [.int .i64 e1345.Kind, .string e1345.Text]) rfl rfl (fun h => by cases h)) rfl rfl fun a hS => ?_)
            refine wl rfl (k_alloc hS ze26 rfl fun b1351 hnb1353 a w hk hS => ?_)
            refine wl rfl (ky (v := .int .i64 g1190) hS (y_assign hS rfl) rfl rfl fun a hS => ?_)
            refine wl rfl (k_store hS rfl rfl (us := [.int .i64 e1345.Kind, .string e1345.Text]) rfl ty26 0 rfl rfl rfl (oc rfl (oc rfl on)) fun w hk hS => ?_)
            refine wpList_nil ?_
            try simp only [Exit.then, Exit.inBlock, ↓reduceIte, Nat.reduceEqDiff]
            refine hK111 _ _ ?_
            refine seq_j (J := fun a w => ∃ (e1428 : Int) (d1429 : (List KeyD)) (b1426 : Nat) (v1430 : Value) (cl1431 : (List Value)), St W0 No T 60 [(1, .int .i64 workers_), (8, v721), (9, .int .i64 g1190), (11, .pointer (some ⟨b1426, 0, none⟩)), (12, .int .i64 e1428), (31, v1), (32, .int .i64 (l_0.length : Int)), (33, .int .i64 g1190)] [.own v721 24 R_DequeD.size cl1189, .own v1430 26 R_KeyD.size cl1431, .box b1426 [v1430] 24] [RowsF R_DequeD cl1189 out1188, SlF R_KeyD v1 l_0, RowsF R_KeyD cl1431 d1429] a w ∧ ref32_Deal_j2 workers_ out1188 g1190 e1428 d1429 = some f1) ?_ ?_
            · skip
              obtain ⟨N1475, hN1475⟩ : ∃ N, N = w.heap.size := ⟨_, rfl⟩
              replace hS := hS.fact (SzF N1475) (Nat.le_of_eq hN1475)
              refine draws [(12, .new N1475)] hS mixed rfl (fun c a d v w h => by cases d <;> exact h) fun w hQ hS => ?_
              refine dy 0 (v := v721) rfl (by kernel_rfl) (by kernel_rfl) (by kernel_rfl) rfl hQ hS (y_move hS rfl) rfl rfl rfl fun a hS => ?_
              refine dy 1 (v := .int .i64 g1190) rfl (by kernel_rfl) (by kernel_rfl) (by kernel_rfl) rfl hQ hS (y_move hS rfl) rfl rfl rfl fun a hS => ?_
              refine dy 2 (v := .int .i64 workers_) rfl (by kernel_rfl) (by kernel_rfl) (by kernel_rfl) rfl hQ hS (y_move hS rfl) rfl rfl rfl fun a hS => ?_
              obtain ⟨hg1476, hM⟩ := gd_some hM
              refine dy 3 (v := .int .i64 (Int.tmod g1190 workers_)) rfl (by kernel_rfl) (by kernel_rfl) (by kernel_rfl) rfl hQ hS (y_rem hS rfl rfl (bne_iff_ne.1 hg1476)) rfl rfl rfl fun a hS => ?_
              obtain ⟨e1477, he1477, hM⟩ := bd hM
              obtain ⟨b1479, o1480, p1485, cs1482, hr1481, hO1483, hC1484, hy1486⟩ := d_indexo (R := R_DequeD) hS sl30 ty24 1 rfl 2 rfl he1477
              obtain ⟨v1478, rfl, hv1478⟩ := hr1481
              replace hS := hS.fact (SlF R_KeyD v1478 e1477.Keys) hv1478
              refine dy 4 (v := .pointer (some ⟨b1479, o1480, none⟩)) rfl (by kernel_rfl) (by kernel_rfl) (by kernel_rfl) rfl hQ hS (hy1486 rfl rfl) rfl rfl rfl fun a hS => ?_
              refine dy (l := []) 5 (v := .agg #[v1478]) rfl (by kernel_rfl) (by kernel_rfl) (by kernel_rfl) (by kernel_rfl) hQ hS (y_loado (k := 0) hS ty24 1 rfl hO1483 hC1484 rfl eo_nil (us := [v1478]) rfl rfl (fun h => by cases h)) rfl rfl rfl fun a hS => ?_
              refine dy (l := []) 6 (v := .agg #[.int .i64 e1345.Kind, .string e1345.Text]) rfl (by kernel_rfl) (by kernel_rfl) (by kernel_rfl) (by kernel_rfl) hQ hS (y_load hS rfl ty26 0 rfl eo_nil (us := [.int .i64 e1345.Kind, .string e1345.Text]) rfl rfl (fun h => by cases h)) rfl rfl rfl fun a hS => ?_
              obtain ⟨u1487, hu1487, hM⟩ := bd hM
              refine wpE_two (i := 7) (j := 11) rfl rfl (by kernel_rfl) rfl rfl ?_ ?_
              · skip
                skip
                refine id (k_call hS ci16 rfl rfl (ref32_Push_c _ _ hS.dlt e1477 e1345 _ (hS.get 0 rfl) _ hu1487) fun _ w hR a hk hA => ⟨stN (hk), ?_⟩)
                obtain ⟨vz1488_2, clz1488_3, he, ⟨hOvz1488_2, hFvz1488_2, hRvz1488_2⟩⟩ := hR
                replace he := he.symm
                subst he
                have hS := hA [.own vz1488_2 26 R_KeyD.size clz1488_3] (adds1 ⟨hOvz1488_2, by decide⟩ hFvz1488_2) (pw1 _)
                replace hS := hS.fact (RowsF R_KeyD clz1488_3 u1487.1.Keys) (hRvz1488_2.keep (Kt.refl _ _) (dT_dT _))
                refine dy 8 (v := .tuple #[.agg #[vz1488_2], .int .i64 u1487.2]) rfl (by kernel_rfl) (by kernel_rfl) (by kernel_rfl) rfl hQ hS (y_move hS rfl) rfl rfl rfl fun a hS => ?_
                refine dy 9 (v := .agg #[vz1488_2]) rfl (by kernel_rfl) (by kernel_rfl) (by kernel_rfl) rfl hQ hS (y_ex hS rfl rfl) rfl rfl rfl fun a hS => ?_
                refine dy 10 (v := .int .i64 u1487.2) rfl (by kernel_rfl) (by kernel_rfl) (by kernel_rfl) rfl hQ hS (y_ex hS rfl rfl) rfl rfl rfl fun a hS => ?_
                have hz1493 := (hS.get 2 rfl : N1475 ≤ w.heap.size)
                refine wpE_one (i := 11) rfl (by kernel_rfl) rfl (k_alloc hS ze24 rfl fun b1490 hnb1492 a w hk hS => ⟨stN (hk), ?_⟩)
                refine wpE_upd 12 (.blk (some b1490)) _ (by kernel_rfl) (etNB (Nat.le_trans hz1493 hnb1492)) ?_
                refine wpE_one (i := 12) rfl (by kernel_rfl) rfl (k_store hS rfl rfl (us := [vz1488_2]) rfl ty24 0 rfl rfl rfl (oc (own_one (hS.own _ (List.mem_of_getElem? (i := 1) rfl)).1) on) fun w hk hS => ⟨stM rfl hk etBox, ?_⟩)
                refine dy 13 (v := .int .i64 u1487.2) rfl (by kernel_rfl) (by kernel_rfl) (by kernel_rfl) rfl hQ hS (y_assign hS rfl) rfl rfl rfl fun a hS => ?_
                refine wpE_done (by kernel_rfl) ?_ _
                try simp only [Exit.then, Exit.inBlock, ↓reduceIte, Nat.reduceEqDiff]
                exact ⟨u1487.2, u1487.1.Keys, b1490, vz1488_2, clz1488_3, (hS.meet [3, 1, 0] (by decide) ⟨rfl, rfl, rfl, rfl, rfl, rfl, rfl, rfl, trivial⟩ ⟨rfl, rfl, rfl, trivial⟩ ⟨⟨4, rfl⟩, ⟨5, rfl⟩, ⟨0, rfl⟩, trivial⟩), hM⟩
              · skip
                skip
                have hz1491 := (hS.get 1 rfl : N1475 ≤ w.heap.size)
                refine id (k_alloc hS ze24 rfl fun b1488 hnb1490 a w hk hS => ⟨stN (hk), ?_⟩)
                refine wpE_upd 12 (.blk (some b1488)) _ (by kernel_rfl) (etNB (Nat.le_trans hz1491 hnb1490)) ?_
                refine wpE_one (i := 7) rfl (by kernel_rfl) rfl (k_call hS ci16 rfl rfl (ref32_Push_c _ _ hS.dlt e1477 e1345 _ (hS.get 0 rfl) _ hu1487) fun _ w hR a hk hA => ⟨stN (hk), ?_⟩)
                obtain ⟨vz1492_2, clz1492_3, he, ⟨hOvz1492_2, hFvz1492_2, hRvz1492_2⟩⟩ := hR
                replace he := he.symm
                subst he
                have hS := hA [.own vz1492_2 26 R_KeyD.size clz1492_3] (adds1 ⟨hOvz1492_2, by decide⟩ hFvz1492_2) (pw1 _)
                replace hS := hS.fact (RowsF R_KeyD clz1492_3 u1487.1.Keys) (hRvz1492_2.keep (Kt.refl _ _) (dT_dT _))
                refine dy 8 (v := .tuple #[.agg #[vz1492_2], .int .i64 u1487.2]) rfl (by kernel_rfl) (by kernel_rfl) (by kernel_rfl) rfl hQ hS (y_move hS rfl) rfl rfl rfl fun a hS => ?_
                refine dy 9 (v := .agg #[vz1492_2]) rfl (by kernel_rfl) (by kernel_rfl) (by kernel_rfl) rfl hQ hS (y_ex hS rfl rfl) rfl rfl rfl fun a hS => ?_
                refine dy 10 (v := .int .i64 u1487.2) rfl (by kernel_rfl) (by kernel_rfl) (by kernel_rfl) rfl hQ hS (y_ex hS rfl rfl) rfl rfl rfl fun a hS => ?_
                refine wpE_one (i := 12) rfl (by kernel_rfl) rfl (k_store hS rfl rfl (us := [vz1492_2]) rfl ty24 1 rfl rfl rfl (oc (own_one (hS.own _ (List.mem_of_getElem? (i := 0) rfl)).1) on) fun w hk hS => ⟨stM rfl hk etBox, ?_⟩)
                refine dy 13 (v := .int .i64 u1487.2) rfl (by kernel_rfl) (by kernel_rfl) (by kernel_rfl) rfl hQ hS (y_assign hS rfl) rfl rfl rfl fun a hS => ?_
                refine wpE_done (by kernel_rfl) ?_ _
                try simp only [Exit.then, Exit.inBlock, ↓reduceIte, Nat.reduceEqDiff]
                exact ⟨u1487.2, u1487.1.Keys, b1488, vz1492_2, clz1492_3, (hS.meet [3, 0, 1] (by decide) ⟨rfl, rfl, rfl, rfl, rfl, rfl, rfl, rfl, trivial⟩ ⟨rfl, rfl, rfl, trivial⟩ ⟨⟨4, rfl⟩, ⟨5, rfl⟩, ⟨0, rfl⟩, trivial⟩), hM⟩
            · rintro a w ⟨e1428, d1429, b1426, v1430, cl1431, hS, hM⟩
              unfold ref32_Deal_j2 at hM
              refine wp_seq_k fun K112 hK112 => ?_
              refine wp_seq_k fun K113 hK113 => ?_
              refine r_list ?_
              refine wl rfl (ky (v := .int .i64 e1428) hS (y_move hS rfl) rfl rfl fun a hS => ?_)
              refine wl rfl (ky (v := .bool ((e1428 : Int) != 0)) hS (y_int hS rfl rfl rfl) rfl rfl fun a hS => ?_)
              refine wpList_nil ?_
              try simp only [Exit.then, Exit.inBlock, ↓reduceIte, Nat.reduceEqDiff]
              refine hK113 _ _ ?_
              rcases bool2 ((e1428 : Int) != 0) with hb1433 | hb1433
              · replace hM := ct hb1433 hM
                refine c_t hS rfl hb1433 ?_
                refine wp_seq_k fun K114 hK114 => ?_
                refine r_list ?_
                refine wl rfl (ky (v := .int .i64 e1428) hS (y_move hS rfl) rfl rfl fun a hS => ?_)
                refine wl rfl (ky (v := .slice none 0 0) hS (y_assign hS rfl) rfl rfl fun a hS => ?_)
                refine wl rfl (ky (v := .int .i64 e1428) hS (y_assign hS rfl) rfl rfl fun a hS => ?_)
                refine wpList_nil ?_
                try simp only [Exit.then, Exit.inBlock, ↓reduceIte, Nat.reduceEqDiff]
                refine hK114 _ _ ?_
                refine wp_ret ?_
                injection hM with hM
                subst hM
                have hr := hf1 _ rfl
                subst hr
                replace hMo1 := el_out hMo1
                have hM := hMo1
                injection hM with hM
                subst hM
                try simp only [Exit.then, Exit.inBlock, ↓reduceIte, Nat.reduceEqDiff]
                refine ret_ok hS Tryd.results25 (res_tmp hS rfl (res_tmp hS rfl res_nil)) ?_
                exact ⟨.slice none 0 0, [], rfl, ret_nil _ _ _ _ _ _⟩
              · replace hM := cf hb1433 hM
                refine c_f hS rfl hb1433 ?_
                refine wp_skip ?_
                try simp only [Exit.then, Exit.inBlock, ↓reduceIte, Nat.reduceEqDiff]
                refine hK112 _ _ ?_
                refine draws [(6, .blk (Value.ownBlock v721))] hS mixed rfl (fun c a d v w h => by cases d <;> exact h) fun w hQ hS => ?_
                refine dy 0 (v := v721) rfl (by kernel_rfl) (by kernel_rfl) (by kernel_rfl) rfl hQ hS (y_move hS rfl) rfl rfl rfl fun a hS => ?_
                refine dy 1 (v := .int .i64 g1190) rfl (by kernel_rfl) (by kernel_rfl) (by kernel_rfl) rfl hQ hS (y_move hS rfl) rfl rfl rfl fun a hS => ?_
                refine dy 2 (v := .int .i64 workers_) rfl (by kernel_rfl) (by kernel_rfl) (by kernel_rfl) rfl hQ hS (y_move hS rfl) rfl rfl rfl fun a hS => ?_
                obtain ⟨hg1446, hM⟩ := gd_some hM
                refine dy 3 (v := .int .i64 (Int.tmod g1190 workers_)) rfl (by kernel_rfl) (by kernel_rfl) (by kernel_rfl) rfl hQ hS (y_rem hS rfl rfl (bne_iff_ne.1 hg1446)) rfl rfl rfl fun a hS => ?_
                refine dy (l := []) 4 (v := .agg #[v1430]) rfl (by kernel_rfl) (by kernel_rfl) (by kernel_rfl) (by kernel_rfl) hQ hS (y_load hS rfl ty24 2 rfl eo_nil (us := [v1430]) rfl rfl (fun h => by cases h)) rfl rfl rfl fun a hS => ?_
                obtain ⟨e1447, he1447, hM⟩ := bd hM
                obtain ⟨b1449, o1450, p1455, cs1452, hr1451, hO1453, hC1454, hy1456⟩ := d_indexo (R := R_DequeD) hS sl30 ty24 0 rfl 0 rfl he1447
                obtain ⟨v1448, rfl, hv1448⟩ := hr1451
                replace hS := hS.fact (SlF R_KeyD v1448 e1447.Keys) hv1448
                refine dy 5 (v := .pointer (some ⟨b1449, o1450, none⟩)) rfl (by kernel_rfl) (by kernel_rfl) (by kernel_rfl) rfl hQ hS (hy1456 rfl rfl) rfl rfl rfl fun a hS => ?_
                replace hS := hS.freeze (R := R_KeyD) 1 rfl 3 rfl
                refine wpE_one (i := 6) rfl (by kernel_rfl) rfl (k_storeo (R := R_DequeD) (k := 0) (cs := [v1448]) (us := [v1430]) (x' := (DequeD.mk d1429)) hS rfl rfl rfl ty24 0 rfl 2 rfl hO1453 hC1454 he1447 (⟨_, rfl, (hS.get 1 rfl)⟩) rfl rfl (⟨_, rfl, (hS.get 0 rfl)⟩) fun cl1457 w hk hS => ⟨stM rfl hk etOwn, ?_⟩)
                refine wpE_done (by kernel_rfl) ?_ _
                try simp only [Exit.then, Exit.inBlock, ↓reduceIte, Nat.reduceEqDiff]
                refine hK110 _ _ ?_
                refine r_list ?_
                refine wl rfl (ky (v := .int .i64 (IntKind.i64.wrap (g1190 + 1))) hS (y_int hS rfl rfl rfl) rfl rfl fun a hS => ?_)
                refine wl rfl (ky (v := .int .i64 (IntKind.i64.wrap (g1190 + 1))) hS (y_move hS rfl) rfl rfl fun a hS => ?_)
                refine wpList_nil ?_
                try simp only [Exit.then, Exit.inBlock, ↓reduceIte, Nat.reduceEqDiff]
                exact ⟨((out1188.set (Int.toNat (Int.tmod g1190 workers_)) (DequeD.mk d1429)), IntKind.i64.wrap (g1190 + 1)), (Option.some.inj hM).symm, (out1188.set (Int.toNat (Int.tmod g1190 workers_)) (DequeD.mk d1429)), (IntKind.i64.wrap (g1190 + 1)), cl1457, rfl, (hS.meet [0] (by decide) ⟨rfl, rfl, rfl, rfl, rfl, trivial⟩ ⟨rfl, trivial⟩ ⟨⟨0, rfl⟩, ⟨4, rfl⟩, trivial⟩)⟩
          · replace hM := cf hb1344 hM
            refine c_f hS rfl hb1344 ?_
            refine wp_exit ?_
            try simp only [Exit.then, Exit.inBlock, ↓reduceIte, Nat.reduceEqDiff]
            injection hM with hM
            subst hM
            have hr := hf1 _ rfl
            subst hr
            replace hMo1 := el_go hMo1
            have hM : ref32_Deal_j1 out1188 = some y := hMo1
            exact ⟨out1188, cl1189, (hS.meet [0] (by decide) ⟨rfl, trivial⟩ ⟨rfl, trivial⟩ ⟨⟨0, rfl⟩, trivial⟩), hM⟩
        · rintro a w ⟨out1033, cl1034, hS, hM⟩
          unfold ref32_Deal_j1 at hM
          refine wp_seq_k fun K92 hK92 => ?_
          refine r_list ?_
          refine wl rfl (ky (v := v721) hS (y_move hS rfl) rfl rfl fun a hS => ?_)
          refine wl rfl (ky (v := v721) hS (y_assign hS rfl) rfl rfl fun a hS => ?_)
          refine wl rfl (ky (v := .int .i64 0) hS (y_assign hS rfl) rfl rfl fun a hS => ?_)
          refine wpList_nil ?_
          try simp only [Exit.then, Exit.inBlock, ↓reduceIte, Nat.reduceEqDiff]
          refine hK92 _ _ ?_
          refine wp_ret ?_
          injection hM with hM
          subst hM
          try simp only [Exit.then, Exit.inBlock, ↓reduceIte, Nat.reduceEqDiff]
          refine ret_ok hS Tryd.results25 (res_tmp hS rfl (res_tmp hS rfl res_nil)) ?_
          exact ⟨v721, cl1034, rfl, hS.retOwn ⟨.inr (List.mem_of_getElem? (i := 0) rfl), trivial⟩ 0 rfl 0 rfl⟩

noncomputable def law32_DequeActs_j1 : Option Bool := (law32_awake).bind fun u11560 => some (u11560)
noncomputable def law32_DequeActs_j2 (g13284 : (List (List KeyD))) (g13288 : Int) : Option (Fl ((List (List KeyD)) × Int) (Fl (Unit) Bool)) := some (.go (g13284, IntKind.i64.wrap (g13288 + 1)))
noncomputable def law32_DequeActs_j3 (g16221 : (List Int)) (g16225 : Int) : Option (Fl ((List Int) × Int) (Fl (Unit) Bool)) := some (.go (g16221, IntKind.i64.wrap (g16225 + 1)))
noncomputable def law32_DequeActs_l4 (u16841 : ((List DequeD) × Int)) (u16844 : ((List DequeD) × Int)) (g16941 : Int) : Option (Fl (Int) (Fl (Unit) Bool)) := cond (decide ((g16941 : Int) < (u16841.1.length : Int))) ((getI u16841.1 g16941).bind fun e17100 => (getI u16844.1 g16941).bind fun e17110 => (ref32_Same e17100 e17110).bind fun u17120 => cond (!(u17120)) (some (.out (.out false))) (some (.go (IntKind.i64.wrap (g16941 + 1))))) (some (.out (.go ())))
noncomputable def law32_DequeActs_l5 (workers_ : Int) (e15798 : (List KeyD)) (u15807 : Int) (g16221 : (List Int)) (g16225 : Int) : Option (Fl ((List Int) × Int) (Fl (Unit) Bool)) := cond (decide ((g16225 : Int) < (([workers_, IntKind.i64.wrap (u15807 - 1), 1]).length : Int))) ((getI g16221 g16225).bind fun e16833 => (deque_Deal e15798 e16833).bind fun u16841 => (ref32_Deal e15798 e16833).bind fun u16844 => cond (((u16841.1.length : Int) : Int) != (u16844.1.length : Int)) (some (.out (.out false))) (cond ((u16841.2 : Int) != u16844.2) (some (.out (.out false))) ((loop (fun s : Int => law32_DequeActs_l4 u16841 u16844 s) 0).bind fun r => Fl.el r (fun s => law32_DequeActs_j3 g16221 g16225) (fun y => some (.out (.out y)))))) (some (.out (.go ())))
noncomputable def law32_DequeActs_l6 (l_1 : (List KeyD)) (k_2 : KeyD) (workers_ : Int) (near7768 : (List KeyD)) (l11595 : (List KeyD)) (g13284 : (List (List KeyD))) (g13288 : Int) : Option (Fl ((List (List KeyD)) × Int) (Fl (Unit) Bool)) := cond (decide ((g13288 : Int) < (([l_1, near7768, (l11595 ++ ([k_2]))]).length : Int))) ((getI g13284 g13288).bind fun e15798 => (mill_Mod workers_ 9).bind fun u15807 => (loop (fun s : (List Int) × Int => law32_DequeActs_l5 workers_ e15798 u15807 s.1 s.2) ([workers_, IntKind.i64.wrap (u15807 - 1), 1], 0)).bind fun r => Fl.el r (fun s => law32_DequeActs_j2 g13284 g13288) (fun y => some (.out (.out y)))) (some (.out (.go ())))
noncomputable def law32_DequeActs_j7 (l_1 : (List KeyD)) (k_2 : KeyD) (workers_ : Int) (near7768 : (List KeyD)) : Option Bool := (subI near7768 0 (near7768.length : Int)).bind fun l11595 => gd (roomB (l11595.length + ([k_2]).length)) <| (loop (fun s : (List (List KeyD)) × Int => law32_DequeActs_l6 l_1 k_2 workers_ near7768 l11595 s.1 s.2) ([l_1, near7768, (l11595 ++ ([k_2]))], 0)).bind fun r => Fl.el r (fun s => law32_DequeActs_j1) (fun y => some (y))
noncomputable def law32_DequeActs_l8 (raw_ : DequeD) (k_2 : KeyD) (near7768 : (List KeyD)) (small7818 : (List KeyD)) (g17293 : (List DequeD)) (g17297 : Int) : Option (Fl ((List DequeD) × Int) (Fl (Unit) Bool)) := cond (decide ((g17297 : Int) < (([raw_, (DequeD.mk near7768), (DequeD.mk small7818)]).length : Int))) ((getI g17293 g17297).bind fun e17463 => (deque_Push e17463 k_2).bind fun u17475 => (ref32_Push e17463 k_2).bind fun u17481 => (deque_Valid e17463).bind fun u17511 => (ref32_Valid e17463).bind fun u17513 => cond (u17511 != u17513) (some (.out (.out false))) ((ref32_Same (DequeD.mk u17475.1.Keys) (DequeD.mk u17481.1.Keys)).bind fun u17516 => cond (!(u17516)) (some (.out (.out false))) (cond ((u17475.2 : Int) != u17481.2) (some (.out (.out false))) ((ref23_Cell 5).bind fun u17535 => (deque_Push e17463 u17535).bind fun u17537 => (ref23_Cell 5).bind fun u17555 => (ref32_Push e17463 u17555).bind fun u17557 => (deque_Pop e17463).bind fun u17560 => (ref32_Pop e17463).bind fun u17569 => (deque_Steal e17463).bind fun u17577 => (ref32_Steal e17463).bind fun u17586 => (ref32_Same (DequeD.mk u17537.1.Keys) (DequeD.mk u17557.1.Keys)).bind fun u17607 => cond (!(u17607)) (some (.out (.out false))) (cond ((u17537.2 : Int) != u17557.2) (some (.out (.out false))) ((ref32_Same (DequeD.mk u17560.1.Keys) (DequeD.mk u17569.1.Keys)).bind fun u17611 => cond (!(u17611)) (some (.out (.out false))) (cond (!((u17560.2.1.Kind : Int) == u17569.2.1.Kind && u17560.2.1.Text.toList == u17569.2.1.Text.toList)) (some (.out (.out false))) (cond (u17560.2.2 != u17569.2.2) (some (.out (.out false))) ((ref32_Same (DequeD.mk u17577.1.Keys) (DequeD.mk u17586.1.Keys)).bind fun u17616 => cond (!(u17616)) (some (.out (.out false))) (cond (!((u17577.2.1.Kind : Int) == u17586.2.1.Kind && u17577.2.1.Text.toList == u17586.2.1.Text.toList)) (some (.out (.out false))) (cond (u17577.2.2 != u17586.2.2) (some (.out (.out false))) (some (.go (g17293, IntKind.i64.wrap (g17297 + 1))))))))))))))) (some (.out (.go ())))
noncomputable def law32_DequeActs_j9 (raw_ : DequeD) (l_1 : (List KeyD)) (k_2 : KeyD) (workers_ : Int) (near7768 : (List KeyD)) (small7818 : (List KeyD)) : Option Bool := (loop (fun s : (List DequeD) × Int => law32_DequeActs_l8 raw_ k_2 near7768 small7818 s.1 s.2) ([raw_, (DequeD.mk near7768), (DequeD.mk small7818)], 0)).bind fun r => Fl.el r (fun s => law32_DequeActs_j7 l_1 k_2 workers_ near7768) (fun y => some (y))
noncomputable def law32_DequeActs_j10 (raw_ : DequeD) (l_1 : (List KeyD)) (k_2 : KeyD) (n_3 : Int) (workers_ : Int) (near7768 : (List KeyD)) : Option Bool := (mill_Mod n_3 4).bind fun u17632 => (subI near7768 0 u17632).bind fun l17634 => law32_DequeActs_j9 raw_ l_1 k_2 workers_ near7768 l17634
noncomputable def law32_DequeActs_l11 (u17643 : Int) (g17669 : Int) (near17670 : (List KeyD)) : Option (Fl (Int × (List KeyD)) ((List KeyD))) := cond (decide ((g17669 : Int) < (IntKind.i64.wrap ((IntKind.i64.wrap (u17643 + 64)) - 1)))) ((ref23_Cell (Int.tmod g17669 100)).bind fun u17706 => gd (roomB (near17670.length + ([u17706]).length)) <| some (.go (IntKind.i64.wrap (g17669 + 1), (near17670 ++ ([u17706]))))) (some (.out near17670))
noncomputable def law32_DequeActs (raw_ : DequeD) (l_1 : (List KeyD)) (k_2 : KeyD) (n_3 : Int) (workers_ : Int) : Option Bool := cond (decide ((100 : Int) < (raw_.Keys.length : Int))) ((law32_awake).bind fun u7707 => some (u7707)) (cond (decide ((100 : Int) < (l_1.length : Int))) ((law32_awake).bind fun u7710 => some (u7710)) ((mill_Mod n_3 3).bind fun u17643 => (loop (fun s : Int × (List KeyD) => law32_DequeActs_l11 u17643 s.1 s.2) (0, ([] : List KeyD))).bind fun r => law32_DequeActs_j10 raw_ l_1 k_2 n_3 workers_ r))
set_option maxRecDepth 100000 in
set_option maxHeartbeats 4000000 in
theorem law32_DequeActs_c (T : Nat → Prop) (W0 : World) (hT : ∀ k, T k → k < W0.heap.size) (hLv : LvP T W0) (raw_ : DequeD) (l_1 : (List KeyD)) (k_2 : KeyD) (n_3 : Int) (workers_ : Int) (v1 : Value) (v2 : Value) (hv1 : SlR R_KeyD T W0 v1 raw_.Keys) (hv2 : SlR R_KeyD T W0 v2 l_1) (y : Bool) (hM : law32_DequeActs raw_ l_1 k_2 n_3 workers_ = some y) : Rets Tryd.prog No 3 [.agg #[v1], v2, .agg #[.int .i64 k_2.Kind, .string k_2.Text], .int .i64 n_3, .int .i64 workers_] W0 (fun v w' => v = .bool y) := by
  refine enter (c := _) Tryd.func3 rfl T 261 Tryd.ntmps3 hT rfl fun a hS => ?_
  replace hS := hS.fact LvF (LvP.dn hLv)
  replace hS := hS.fact (SlF R_KeyD v1 raw_.Keys) (SlR.dn hv1)
  replace hS := hS.fact (SlF R_KeyD v2 l_1) (SlR.dn hv2)
  unfold law32_DequeActs at hM
  refine wp_seq_k fun K830 hK830 => ?_
  refine r_list ?_
  refine wl rfl (k_box hS rfl (cs := [v1]) rfl rfl fun b7699 hnb7701 a w hk hS => ?_)
  refine wl rfl (k_box hS rfl (cs := [.int .i64 k_2.Kind, .string k_2.Text]) rfl rfl fun b7702 hnb7704 a w hk hS => ?_)
  refine wl rfl (ky (v := .bool false) hS (y_assign hS rfl) rfl rfl fun a hS => ?_)
  refine wpList_nil ?_
  try simp only [Exit.then, Exit.inBlock, ↓reduceIte, Nat.reduceEqDiff]
  refine hK830 _ _ ?_
  refine wp_seq_k fun K831 hK831 => ?_
  refine wp_seq_k fun K832 hK832 => ?_
  refine r_list ?_
  refine wl rfl (ky (v := .pointer (some ⟨b7699, 0 + 0, none⟩)) hS (y_fld hS rfl fl24_0) rfl rfl fun a hS => ?_)
  refine wl rfl (ky (v := v1) hS (y_load hS rfl ty22 1 rfl id (us := [v1]) rfl rfl (fun _ => rfl)) rfl rfl fun a hS => ?_)
  refine wl rfl (ky (v := .int .i64 (raw_.Keys.length : Int)) hS (y_len (R := R_KeyD) (xs := raw_.Keys) hS sl22 rfl 1 rfl) rfl rfl fun a hS => ?_)
  refine wl rfl (ky (v := .bool (decide ((100 : Int) < (raw_.Keys.length : Int)))) hS (y_int hS rfl rfl rfl) rfl rfl fun a hS => ?_)
  refine wl rfl (ky (v := .bool (decide ((100 : Int) < (raw_.Keys.length : Int)))) hS (y_move hS rfl) rfl rfl fun a hS => ?_)
  rcases bool2 (decide ((100 : Int) < (raw_.Keys.length : Int))) with hb7706 | hb7706
  · replace hM := ct hb7706 hM
    refine wn hS rfl rfl rfl hb7706 rfl rfl fun a hS => ?_
    refine wn hS rfl rfl rfl hb7706 rfl rfl fun a hS => ?_
    refine wn hS rfl rfl rfl hb7706 rfl rfl fun a hS => ?_
    refine wl rfl (ky (v := .bool true) hS (y_pickt hS rfl hb7706 rfl) rfl rfl fun a hS => ?_)
    refine wpList_nil ?_
    try simp only [Exit.then, Exit.inBlock, ↓reduceIte, Nat.reduceEqDiff]
    refine hK832 _ _ ?_
    refine c_t hS rfl rfl ?_
    refine wp_seq_k fun K833 hK833 => ?_
    refine r_list ?_
    obtain ⟨u7707, hu7707, hM⟩ := bd hM
    refine wl rfl (k_call hS ci12 rfl rfl (law32_awake_c _ _ hS.dlt (hS.get 2 rfl) _ hu7707) fun _ w hR a hk hA => ?_)
    have he := Eq.symm hR
    subst he
    have hS := hA [] (fun r hr => by cases hr) List.Pairwise.nil
    refine wl rfl (ky (v := .bool u7707) hS (y_assign hS rfl) rfl rfl fun a hS => ?_)
    refine wpList_nil ?_
    try simp only [Exit.then, Exit.inBlock, ↓reduceIte, Nat.reduceEqDiff]
    refine hK833 _ _ ?_
    refine wp_ret ?_
    injection hM with hM
    subst hM
    try simp only [Exit.then, Exit.inBlock, ↓reduceIte, Nat.reduceEqDiff]
    refine ret_ok hS Tryd.results3 (res_tmp hS rfl res_nil) ?_
    exact rfl
  · replace hM := cf hb7706 hM
    refine wg hS rfl rfl rfl hb7706 (ky (v := v2) hS (y_move hS rfl) rfl rfl fun a hS => ?_)
    refine wg hS rfl rfl rfl hb7706 (ky (v := .int .i64 (l_1.length : Int)) hS (y_len (R := R_KeyD) (xs := l_1) hS sl22 rfl 0 rfl) rfl rfl fun a hS => ?_)
    refine wg hS rfl rfl rfl hb7706 (ky (v := .bool (decide ((100 : Int) < (l_1.length : Int)))) hS (y_int hS rfl rfl rfl) rfl rfl fun a hS => ?_)
    refine wl rfl (ky (v := .bool (decide ((100 : Int) < (l_1.length : Int)))) hS (y_pickf hS rfl hb7706 rfl) rfl rfl fun a hS => ?_)
    refine wpList_nil ?_
    try simp only [Exit.then, Exit.inBlock, ↓reduceIte, Nat.reduceEqDiff]
    refine hK832 _ _ ?_
    rcases bool2 (decide ((100 : Int) < (l_1.length : Int))) with hb7709 | hb7709
    · replace hM := ct hb7709 hM
      refine c_t hS rfl hb7709 ?_
      refine wp_seq_k fun K834 hK834 => ?_
      refine r_list ?_
      obtain ⟨u7710, hu7710, hM⟩ := bd hM
      refine wl rfl (k_call hS ci12 rfl rfl (law32_awake_c _ _ hS.dlt (hS.get 2 rfl) _ hu7710) fun _ w hR a hk hA => ?_)
      have he := Eq.symm hR
      subst he
      have hS := hA [] (fun r hr => by cases hr) List.Pairwise.nil
      refine wl rfl (ky (v := .bool u7710) hS (y_assign hS rfl) rfl rfl fun a hS => ?_)
      refine wpList_nil ?_
      try simp only [Exit.then, Exit.inBlock, ↓reduceIte, Nat.reduceEqDiff]
      refine hK834 _ _ ?_
      refine wp_ret ?_
      injection hM with hM
      subst hM
      try simp only [Exit.then, Exit.inBlock, ↓reduceIte, Nat.reduceEqDiff]
      refine ret_ok hS Tryd.results3 (res_tmp hS rfl res_nil) ?_
      exact rfl
    · replace hM := cf hb7709 hM
      refine c_f hS rfl hb7709 ?_
      refine wp_skip ?_
      try simp only [Exit.then, Exit.inBlock, ↓reduceIte, Nat.reduceEqDiff]
      refine hK831 _ _ ?_
      refine wp_seq_k fun K835 hK835 => ?_
      refine r_list ?_
      refine wl rfl (ky (v := .agg #[.slice none 0 0]) hS (y_build (ps := []) hS pl24 ze24 rfl (us := []) trivial (ws := [.slice none 0 0]) rfl) rfl rfl fun a hS => ?_)
      refine wl rfl (k_alloc hS ze24 rfl fun b7712 hnb7714 a w hk hS => ?_)
      refine wl rfl (k_store hS rfl rfl (us := [.slice none 0 0]) rfl ty24 0 rfl rfl rfl (oc rfl on) fun w hk hS => ?_)
      refine wpList_nil ?_
      try simp only [Exit.then, Exit.inBlock, ↓reduceIte, Nat.reduceEqDiff]
      refine hK835 _ _ ?_
      refine seq_j (J := fun a w => ∃ (near7768 : (List KeyD)) (v7769 : Value) (cl7770 : (List Value)), St W0 No T 261 [(1, v2), (3, .int .i64 n_3), (4, .int .i64 workers_), (5, .pointer (some ⟨b7699, 0, none⟩)), (7, .pointer (some ⟨b7702, 0, none⟩)), (11, .pointer (some ⟨b7712, 0, none⟩))] [.box b7699 [v1] 24, .box b7702 [.int .i64 k_2.Kind, .string k_2.Text] 26, .own v7769 26 R_KeyD.size cl7770, .box b7712 [v7769] 24] [SlF R_KeyD v2 l_1, SlF R_KeyD v1 raw_.Keys, RowsF R_KeyD cl7770 near7768, LvF] a w ∧ law32_DequeActs_j10 raw_ l_1 k_2 n_3 workers_ near7768 = some y) ?_ ?_
      · skip
        refine wp_seq_k fun K1898 hK1898 => ?_
        refine r_list ?_
        refine wl rfl (ky (v := .int .i64 n_3) hS (y_move hS rfl) rfl rfl fun a hS => ?_)
        obtain ⟨u17643, hu17643, hM⟩ := bd hM
        refine wl rfl (k_call hS ci13 rfl rfl (mill_Mod_c _ _ hS.dlt n_3 3 _ hu17643) fun _ w hR a hk hA => ?_)
        have he := Eq.symm hR
        subst he
        have hS := hA [] (fun r hr => by cases hr) List.Pairwise.nil
        refine wl rfl (ky (v := .int .i64 (IntKind.i64.wrap (u17643 + 64))) hS (y_int hS rfl rfl rfl) rfl rfl fun a hS => ?_)
        refine wl rfl (ky (v := .int .i64 (IntKind.i64.wrap ((IntKind.i64.wrap (u17643 + 64)) - 1))) hS (y_int hS rfl rfl rfl) rfl rfl fun a hS => ?_)
        refine wl rfl (ky (v := .int .i64 0) hS (y_move hS rfl) rfl rfl fun a hS => ?_)
        refine wpList_nil ?_
        try simp only [Exit.then, Exit.inBlock, ↓reduceIte, Nat.reduceEqDiff]
        refine hK1898 _ _ ?_
        refine wp_block ?_
        replace hS := hS.nilRow R_KeyD 26 (by decide)
        obtain ⟨r1, hl1, hMo1⟩ := bd hM
        refine wp_lp (fun s : Int × (List KeyD) => law32_DequeActs_l11 u17643 s.1 s.2) (fun s a w => ∃ (g17669 : Int) (near17670 : (List KeyD)) (v17671 : Value) (cl17672 : (List Value)), (g17669, near17670) = s ∧ St W0 No T 261 [(1, v2), (3, .int .i64 n_3), (4, .int .i64 workers_), (5, .pointer (some ⟨b7699, 0, none⟩)), (7, .pointer (some ⟨b7702, 0, none⟩)), (11, .pointer (some ⟨b7712, 0, none⟩)), (55, .int .i64 (IntKind.i64.wrap ((IntKind.i64.wrap (u17643 + 64)) - 1))), (56, .int .i64 g17669)] [.box b7699 [v1] 24, .box b7702 [.int .i64 k_2.Kind, .string k_2.Text] 26, .own v17671 26 R_KeyD.size cl17672, .box b7712 [v17671] 24] [SlF R_KeyD v2 l_1, SlF R_KeyD v1 raw_.Keys, RowsF R_KeyD cl17672 near17670, LvF] a w) hl1 ⟨0, ([] : List KeyD), (.slice none 0 0), ([]), rfl, (hS.meet [3, 2, 0, 1] (by decide) ⟨rfl, rfl, rfl, rfl, rfl, rfl, rfl, rfl, trivial⟩ ⟨rfl, rfl, rfl, rfl, trivial⟩ ⟨⟨1, rfl⟩, ⟨2, rfl⟩, ⟨0, rfl⟩, ⟨3, rfl⟩, trivial⟩)⟩ ?_
        rintro s a w f1 ⟨g17669, near17670, v17671, cl17672, rfl, hS⟩ hM hf1
        have hM : law32_DequeActs_l11 u17643 g17669 near17670 = some f1 := hM
        unfold law32_DequeActs_l11 at hM
        refine wp_seq_k fun K1907 hK1907 => ?_
        refine r_list ?_
        refine wl rfl (ky (v := .bool (decide ((g17669 : Int) < (IntKind.i64.wrap ((IntKind.i64.wrap (u17643 + 64)) - 1))))) hS (y_int hS rfl rfl rfl) rfl rfl fun a hS => ?_)
        refine wpList_nil ?_
        try simp only [Exit.then, Exit.inBlock, ↓reduceIte, Nat.reduceEqDiff]
        refine hK1907 _ _ ?_
        refine wp_seq_k fun K1908 hK1908 => ?_
        rcases bool2 (decide ((g17669 : Int) < (IntKind.i64.wrap ((IntKind.i64.wrap (u17643 + 64)) - 1)))) with hb17697 | hb17697
        · replace hM := ct hb17697 hM
          refine c_t hS rfl hb17697 ?_
          refine wp_skip ?_
          try simp only [Exit.then, Exit.inBlock, ↓reduceIte, Nat.reduceEqDiff]
          refine hK1908 _ _ ?_
          refine wp_seq_k fun K1909 hK1909 => ?_
          refine wp_block ?_
          refine wp_seq_k fun K1910 hK1910 => ?_
          refine r_list ?_
          refine wl rfl (ky (v := .int .i64 g17669) hS (y_move hS rfl) rfl rfl fun a hS => ?_)
          refine wl rfl (ky (v := .int .i64 g17669) hS (y_assign hS rfl) rfl rfl fun a hS => ?_)
          refine wpList_nil ?_
          try simp only [Exit.then, Exit.inBlock, ↓reduceIte, Nat.reduceEqDiff]
          refine hK1910 _ _ ?_
          refine draws [(6, .blk (Value.ownBlock v17671)), (8, .blk (some b7712))] hS mixed rfl (fun c a d v w h => by cases d <;> exact h) fun w hQ hS => ?_
          refine dy 0 (v := .pointer (some ⟨b7712, 0 + 0, none⟩)) rfl (by kernel_rfl) (by kernel_rfl) (by kernel_rfl) rfl hQ hS (y_fld hS rfl fl24_0) rfl rfl rfl fun a hS => ?_
          refine dy (l := []) 1 (v := v17671) rfl (by kernel_rfl) (by kernel_rfl) (by kernel_rfl) (by kernel_rfl) hQ hS (y_load hS rfl ty22 3 rfl eo_nil (us := [v17671]) rfl rfl (fun _ => rfl)) rfl rfl rfl fun a hS => ?_
          refine dy 2 (v := .int .i64 g17669) rfl (by kernel_rfl) (by kernel_rfl) (by kernel_rfl) rfl hQ hS (y_move hS rfl) rfl rfl rfl fun a hS => ?_
          refine dy 3 (v := .int .i64 (Int.tmod g17669 100)) rfl (by kernel_rfl) (by kernel_rfl) (by kernel_rfl) rfl hQ hS (y_rem hS rfl rfl (by decide)) rfl rfl rfl fun a hS => ?_
          obtain ⟨u17706, hu17706, hM⟩ := bd hM
          refine wpE_one (i := 4) rfl (by kernel_rfl) rfl (k_call hS ci14 rfl rfl (ref23_Cell_c _ _ hS.dlt (hS.get 3 rfl) (Int.tmod g17669 100) _ hu17706) fun _ w hR a hk hA => ⟨stN (hk), ?_⟩)
          have he := Eq.symm hR
          subst he
          have hS := hA [] (fun r hr => by cases hr) List.Pairwise.nil
          refine wpE_one (i := 5) rfl (by kernel_rfl) rfl (k_bslice (ps := [(0, .tmp 63)]) hS el22 ze26 (zl := [.int .i64 0, .string (ByteArray.mk #[])]) (by kernel_rfl) rfl (us := [[.int .i64 u17706.Kind, .string u17706.Text]]) ⟨rfl, trivial⟩ (ws := [.int .i64 u17706.Kind, .string u17706.Text]) rfl rfl rfl rfl fun b17708 a w hk hS => ⟨stN (hk), ?_⟩)
          replace hS := hS.lit (R := R_KeyD) (us := [.int .i64 u17706.Kind, .string u17706.Text]) (xs := [u17706]) 0 rfl (by decide) (RowsOk.one_ (R := R_KeyD) (x := u17706) rfl) rfl rfl
          replace hS := hS.freeze (R := R_KeyD) 0 rfl 0 rfl
          obtain ⟨hg17710, hM⟩ := gd_some hM
          refine wpE_one (i := 6) rfl (by kernel_rfl) rfl (k_apps (R := R_KeyD) (xs := near17670) (ys := [u17706]) hS el22 (by decide) (by decide) rfl rfl 2 rfl 4 rfl 0 rfl hg17710 rfl fun v17711 cl17712 a w hk hS => ⟨stM rfl hk etOwn, ?_⟩)
          refine dy 7 (v := .pointer (some ⟨b7712, 0 + 0, none⟩)) rfl (by kernel_rfl) (by kernel_rfl) (by kernel_rfl) rfl hQ hS (y_fld hS rfl fl24_0) rfl rfl rfl fun a hS => ?_
          refine wpE_one (i := 8) rfl (by kernel_rfl) rfl (k_store hS rfl rfl (us := [v17711]) (cells1 (own_one (hS.own _ (List.mem_of_getElem? (i := 2) rfl)).1)) ty22 3 rfl rfl rfl (oc (own_one (hS.own _ (List.mem_of_getElem? (i := 2) rfl)).1) on) fun w hk hS => ⟨stM rfl hk etBox, ?_⟩)
          refine wpE_done (by kernel_rfl) ?_ _
          try simp only [Exit.then, Exit.inBlock, ↓reduceIte, Nat.reduceEqDiff]
          refine hK1909 _ _ ?_
          refine r_list ?_
          refine wl rfl (ky (v := .int .i64 (IntKind.i64.wrap (g17669 + 1))) hS (y_int hS rfl rfl rfl) rfl rfl fun a hS => ?_)
          refine wl rfl (ky (v := .int .i64 (IntKind.i64.wrap (g17669 + 1))) hS (y_move hS rfl) rfl rfl fun a hS => ?_)
          refine wpList_nil ?_
          try simp only [Exit.then, Exit.inBlock, ↓reduceIte, Nat.reduceEqDiff]
          exact ⟨(IntKind.i64.wrap (g17669 + 1), (near17670 ++ ([u17706]))), (Option.some.inj hM).symm, (IntKind.i64.wrap (g17669 + 1)), (near17670 ++ ([u17706])), v17711, cl17712, rfl, (hS.meet [0, 1, 2, 3] (by decide) ⟨rfl, rfl, rfl, rfl, rfl, rfl, rfl, rfl, trivial⟩ ⟨rfl, rfl, rfl, rfl, trivial⟩ ⟨⟨3, rfl⟩, ⟨4, rfl⟩, ⟨0, rfl⟩, ⟨6, rfl⟩, trivial⟩)⟩
        · replace hM := cf hb17697 hM
          refine c_f hS rfl hb17697 ?_
          refine wp_exit ?_
          try simp only [Exit.then, Exit.inBlock, ↓reduceIte, Nat.reduceEqDiff]
          injection hM with hM
          subst hM
          have hr := hf1 _ rfl
          subst hr
          have hM : law32_DequeActs_j10 raw_ l_1 k_2 n_3 workers_ near17670 = some y := hMo1
          exact ⟨near17670, v17671, cl17672, (hS.meet [0, 1, 2, 3] (by decide) ⟨rfl, rfl, rfl, rfl, rfl, rfl, trivial⟩ ⟨rfl, rfl, rfl, rfl, trivial⟩ ⟨⟨0, rfl⟩, ⟨1, rfl⟩, ⟨2, rfl⟩, ⟨3, rfl⟩, trivial⟩), hM⟩
      · rintro a w ⟨near7768, v7769, cl7770, hS, hM⟩
        unfold law32_DequeActs_j10 at hM
        refine seq_j (J := fun a w => ∃ (small7818 : (List KeyD)) (b7816 : Nat) (v7819 : Value), St W0 No T 261 [(1, v2), (4, .int .i64 workers_), (5, .pointer (some ⟨b7699, 0, none⟩)), (7, .pointer (some ⟨b7702, 0, none⟩)), (11, .pointer (some ⟨b7712, 0, none⟩)), (13, .pointer (some ⟨b7816, 0, none⟩))] [.box b7699 [v1] 24, .box b7702 [.int .i64 k_2.Kind, .string k_2.Text] 26, .box b7712 [v7769] 24, .box b7816 [v7819] 24] [SlF R_KeyD v2 l_1, SlF R_KeyD v1 raw_.Keys, SlF R_KeyD v7769 near7768, SlF R_KeyD v7819 small7818, LvF] a w ∧ law32_DequeActs_j9 raw_ l_1 k_2 workers_ near7768 small7818 = some y) ?_ ?_
        · skip
          obtain ⟨N17631, hN17631⟩ : ∃ N, N = w.heap.size := ⟨_, rfl⟩
          replace hS := hS.fact (SzF N17631) (Nat.le_of_eq hN17631)
          refine draws [(7, .new N17631)] hS mixed rfl (fun c a d v w h => by cases d <;> exact h) fun w hQ hS => ?_
          refine dy 0 (v := .pointer (some ⟨b7712, 0 + 0, none⟩)) rfl (by kernel_rfl) (by kernel_rfl) (by kernel_rfl) rfl hQ hS (y_fld hS rfl fl24_0) rfl rfl rfl fun a hS => ?_
          refine dy (l := []) 1 (v := v7769) rfl (by kernel_rfl) (by kernel_rfl) (by kernel_rfl) (by kernel_rfl) hQ hS (y_load hS rfl ty22 3 rfl eo_nil (us := [v7769]) rfl rfl (fun _ => rfl)) rfl rfl rfl fun a hS => ?_
          refine dy 2 (v := .int .i64 n_3) rfl (by kernel_rfl) (by kernel_rfl) (by kernel_rfl) rfl hQ hS (y_move hS rfl) rfl rfl rfl fun a hS => ?_
          obtain ⟨u17632, hu17632, hM⟩ := bd hM
          refine wpE_two (i := 3) (j := 6) rfl rfl (by kernel_rfl) rfl rfl ?_ ?_
          · skip
            skip
            refine id (k_call hS ci13 rfl rfl (mill_Mod_c _ _ hS.dlt n_3 4 _ hu17632) fun _ w hR a hk hA => ⟨stN (hk), ?_⟩)
            have he := Eq.symm hR
            subst he
            have hS := hA [] (fun r hr => by cases hr) List.Pairwise.nil
            obtain ⟨l17634, hl17634, hM⟩ := bd hM
            obtain ⟨v17635, hv17636, hy17637⟩ := d_view (R := R_KeyD) hS sl22 ty26 2 rfl 3 rfl hl17634
            refine dy 4 (v := v17635) rfl (by kernel_rfl) (by kernel_rfl) (by kernel_rfl) rfl hQ hS (hy17637 (k1 := .i64) rfl (.inr ⟨rfl, rfl⟩) (.inl ⟨_, rfl, rfl⟩)) rfl rfl rfl fun a hS => ?_
            replace hS := hS.freeze (R := R_KeyD) 2 rfl 3 rfl
            replace hS := hS.fact (SlF R_KeyD v17635 l17634) (hv17636 _ _ (hS.get 0 rfl))
            refine dy 5 (v := .agg #[v17635]) rfl (by kernel_rfl) (by kernel_rfl) (by kernel_rfl) rfl hQ hS (y_build (ps := [(0, .tmp 72)]) hS pl24 ze24 rfl (us := [[v17635]]) ⟨(cells1 (SlR.one ((hS.get 0 rfl) : SlR R_KeyD _ _ _ _))), trivial⟩ (ws := [v17635]) rfl) rfl rfl rfl fun a hS => ?_
            have hz17642 := (hS.get 2 rfl : N17631 ≤ w.heap.size)
            refine wpE_one (i := 6) rfl (by kernel_rfl) rfl (k_alloc hS ze24 rfl fun b17639 hnb17641 a w hk hS => ⟨stN (hk), ?_⟩)
            refine wpE_upd 7 (.blk (some b17639)) _ (by kernel_rfl) (etNB (Nat.le_trans hz17642 hnb17641)) ?_
            refine wpE_one (i := 7) rfl (by kernel_rfl) rfl (k_store hS rfl rfl (us := [v17635]) rfl ty24 0 rfl rfl rfl (oc (SlR.one ((hS.get 0 rfl) : SlR R_KeyD _ _ _ _)) on) fun w hk hS => ⟨stM rfl hk etBox, ?_⟩)
            refine wpE_done (by kernel_rfl) ?_ _
            try simp only [Exit.then, Exit.inBlock, ↓reduceIte, Nat.reduceEqDiff]
            exact ⟨l17634, b17639, v17635, (hS.meet [1, 2, 3, 0] (by decide) ⟨rfl, rfl, rfl, rfl, rfl, rfl, trivial⟩ ⟨rfl, rfl, rfl, rfl, trivial⟩ ⟨⟨3, rfl⟩, ⟨4, rfl⟩, ⟨1, rfl⟩, ⟨0, rfl⟩, ⟨6, rfl⟩, trivial⟩), hM⟩
          · skip
            skip
            have hz17636 := (hS.get 0 rfl : N17631 ≤ w.heap.size)
            refine id (k_alloc hS ze24 rfl fun b17633 hnb17635 a w hk hS => ⟨stN (hk), ?_⟩)
            refine wpE_upd 7 (.blk (some b17633)) _ (by kernel_rfl) (etNB (Nat.le_trans hz17636 hnb17635)) ?_
            refine wpE_one (i := 3) rfl (by kernel_rfl) rfl (k_call hS ci13 rfl rfl (mill_Mod_c _ _ hS.dlt n_3 4 _ hu17632) fun _ w hR a hk hA => ⟨stN (hk), ?_⟩)
            have he := Eq.symm hR
            subst he
            have hS := hA [] (fun r hr => by cases hr) List.Pairwise.nil
            obtain ⟨l17638, hl17638, hM⟩ := bd hM
            obtain ⟨v17639, hv17640, hy17641⟩ := d_view (R := R_KeyD) hS sl22 ty26 3 rfl 3 rfl hl17638
            refine dy 4 (v := v17639) rfl (by kernel_rfl) (by kernel_rfl) (by kernel_rfl) rfl hQ hS (hy17641 (k1 := .i64) rfl (.inr ⟨rfl, rfl⟩) (.inl ⟨_, rfl, rfl⟩)) rfl rfl rfl fun a hS => ?_
            replace hS := hS.freeze (R := R_KeyD) 3 rfl 3 rfl
            replace hS := hS.fact (SlF R_KeyD v17639 l17638) (hv17640 _ _ (hS.get 0 rfl))
            refine dy 5 (v := .agg #[v17639]) rfl (by kernel_rfl) (by kernel_rfl) (by kernel_rfl) rfl hQ hS (y_build (ps := [(0, .tmp 72)]) hS pl24 ze24 rfl (us := [[v17639]]) ⟨(cells1 (SlR.one ((hS.get 0 rfl) : SlR R_KeyD _ _ _ _))), trivial⟩ (ws := [v17639]) rfl) rfl rfl rfl fun a hS => ?_
            refine wpE_one (i := 7) rfl (by kernel_rfl) rfl (k_store hS rfl rfl (us := [v17639]) rfl ty24 0 rfl rfl rfl (oc (SlR.one ((hS.get 0 rfl) : SlR R_KeyD _ _ _ _)) on) fun w hk hS => ⟨stM rfl hk etBox, ?_⟩)
            refine wpE_done (by kernel_rfl) ?_ _
            try simp only [Exit.then, Exit.inBlock, ↓reduceIte, Nat.reduceEqDiff]
            exact ⟨l17638, b17633, v17639, (hS.meet [1, 2, 3, 0] (by decide) ⟨rfl, rfl, rfl, rfl, rfl, rfl, trivial⟩ ⟨rfl, rfl, rfl, rfl, trivial⟩ ⟨⟨3, rfl⟩, ⟨4, rfl⟩, ⟨1, rfl⟩, ⟨0, rfl⟩, ⟨6, rfl⟩, trivial⟩), hM⟩
        · rintro a w ⟨small7818, b7816, v7819, hS, hM⟩
          unfold law32_DequeActs_j9 at hM
          refine seq_j (J := fun a w => St W0 No T 261 [(1, v2), (4, .int .i64 workers_), (7, .pointer (some ⟨b7702, 0, none⟩)), (11, .pointer (some ⟨b7712, 0, none⟩))] [.box b7702 [.int .i64 k_2.Kind, .string k_2.Text] 26, .box b7712 [v7769] 24] [SlF R_KeyD v2 l_1, SlF R_KeyD v7769 near7768, LvF] a w ∧ law32_DequeActs_j7 l_1 k_2 workers_ near7768 = some y) ?_ ?_
          · skip
            refine wp_seq_k fun K1819 hK1819 => ?_
            refine r_list ?_
            refine wl rfl (ky (v := .agg #[v1]) hS (y_load hS rfl ty24 0 rfl id (us := [v1]) rfl rfl (fun h => by cases h)) rfl rfl fun a hS => ?_)
            refine wl rfl (ky (v := .agg #[v7769]) hS (y_load hS rfl ty24 2 rfl id (us := [v7769]) rfl rfl (fun h => by cases h)) rfl rfl fun a hS => ?_)
            refine wl rfl (ky (v := .agg #[v7819]) hS (y_load hS rfl ty24 3 rfl id (us := [v7819]) rfl rfl (fun h => by cases h)) rfl rfl fun a hS => ?_)
            refine wl rfl (k_bslice (ps := [(0, .tmp 74), (1, .tmp 75), (2, .tmp 76)]) hS el30 ze24 (zl := [.slice none 0 0, .slice none 0 0, .slice none 0 0]) (by kernel_rfl) rfl (us := [[v1], [v7769], [v7819]]) ⟨rfl, ⟨rfl, ⟨rfl, trivial⟩⟩⟩ (ws := [v1, v7769, v7819]) rfl rfl rfl rfl fun b17123 a w hk hS => ?_)
            replace hS := hS.lit (R := R_DequeD) (us := [v1, v7769, v7819]) (xs := [raw_, (DequeD.mk near7768), (DequeD.mk small7818)]) 0 rfl (by decide) ((RowsOk.one_ (R := R_DequeD) (x := raw_) (⟨_, rfl, (hS.get 1 rfl)⟩)).append ((RowsOk.one_ (R := R_DequeD) (x := (DequeD.mk near7768)) (⟨_, rfl, (hS.get 2 rfl)⟩)).append (RowsOk.one_ (R := R_DequeD) (x := (DequeD.mk small7818)) (⟨_, rfl, (hS.get 3 rfl)⟩)))) rfl rfl
            refine wl rfl (ky (v := .int .i64 (([raw_, (DequeD.mk near7768), (DequeD.mk small7818)]).length : Int)) hS (y_leno (R := R_DequeD) (xs := [raw_, (DequeD.mk near7768), (DequeD.mk small7818)]) hS sl30 rfl 0 rfl 0 rfl) rfl rfl fun a hS => ?_)
            refine wl rfl (ky (v := .int .i64 0) hS (y_move hS rfl) rfl rfl fun a hS => ?_)
            refine wpList_nil ?_
            try simp only [Exit.then, Exit.inBlock, ↓reduceIte, Nat.reduceEqDiff]
            refine hK1819 _ _ ?_
            refine wp_block ?_
            obtain ⟨r1, hl1, hMo1⟩ := bd hM
            refine wp_lp (fun s : (List DequeD) × Int => law32_DequeActs_l8 raw_ k_2 near7768 small7818 s.1 s.2) (fun s a w => ∃ (g17293 : (List DequeD)) (g17297 : Int) (v17294 : Value) (cl17295 : (List Value)), (g17293, g17297) = s ∧ St W0 No T 261 [(1, v2), (4, .int .i64 workers_), (7, .pointer (some ⟨b7702, 0, none⟩)), (11, .pointer (some ⟨b7712, 0, none⟩)), (77, v17294), (78, .int .i64 (([raw_, (DequeD.mk near7768), (DequeD.mk small7818)]).length : Int)), (79, .int .i64 g17297)] [.own v17294 24 R_DequeD.size cl17295, .box b7702 [.int .i64 k_2.Kind, .string k_2.Text] 26, .box b7712 [v7769] 24] [SlF R_KeyD v2 l_1, RowsF R_DequeD cl17295 g17293, SlF R_KeyD v7769 near7768, LvF] a w) hl1 ⟨([raw_, (DequeD.mk near7768), (DequeD.mk small7818)]), 0, (.slice (some ⟨b17123, 0, none⟩) 3 3), ([v1, v7769, v7819]), rfl, (hS.meet [0, 2, 3] (by decide) ⟨rfl, rfl, rfl, rfl, rfl, rfl, rfl, trivial⟩ ⟨rfl, rfl, rfl, trivial⟩ ⟨⟨1, rfl⟩, ⟨0, rfl⟩, ⟨3, rfl⟩, ⟨5, rfl⟩, trivial⟩)⟩ ?_
            rintro s a w f1 ⟨g17293, g17297, v17294, cl17295, rfl, hS⟩ hM hf1
            have hM : law32_DequeActs_l8 raw_ k_2 near7768 small7818 g17293 g17297 = some f1 := hM
            unfold law32_DequeActs_l8 at hM
            refine wp_seq_k fun K1872 hK1872 => ?_
            refine r_list ?_
            refine wl rfl (ky (v := .bool (decide ((g17297 : Int) < (([raw_, (DequeD.mk near7768), (DequeD.mk small7818)]).length : Int)))) hS (y_int hS rfl rfl rfl) rfl rfl fun a hS => ?_)
            refine wpList_nil ?_
            try simp only [Exit.then, Exit.inBlock, ↓reduceIte, Nat.reduceEqDiff]
            refine hK1872 _ _ ?_
            refine wp_seq_k fun K1873 hK1873 => ?_
            rcases bool2 (decide ((g17297 : Int) < (([raw_, (DequeD.mk near7768), (DequeD.mk small7818)]).length : Int))) with hb17462 | hb17462
            · replace hM := ct hb17462 hM
              refine c_t hS rfl hb17462 ?_
              refine wp_skip ?_
              try simp only [Exit.then, Exit.inBlock, ↓reduceIte, Nat.reduceEqDiff]
              refine hK1873 _ _ ?_
              refine wp_seq_k fun K1874 hK1874 => ?_
              refine wp_block ?_
              refine wp_seq_k fun K1875 hK1875 => ?_
              refine r_list ?_
              obtain ⟨e17463, he17463, hM⟩ := bd hM
              refine wl rfl (k_indexo (R := R_DequeD) hS sl30 ty24 rfl rfl 0 rfl 1 rfl he17463 rfl fun b17465 o17466 p17471 cs17468 hr17467 hO17469 hC17470 a hS => ?_)
              obtain ⟨v17464, rfl, hv17464⟩ := hr17467
              replace hS := hS.fact (SlF R_KeyD v17464 e17463.Keys) hv17464
              refine wl rfl (ky (v := .agg #[v17464]) hS (y_loado (k := 0) hS ty24 0 rfl hO17469 hC17470 rfl id (us := [v17464]) rfl rfl (fun h => by cases h)) rfl rfl fun a hS => ?_)
              refine wl rfl (k_alloc hS ze24 rfl fun b17472 hnb17474 a w hk hS => ?_)
              refine wl rfl (k_store hS rfl rfl (us := [v17464]) rfl ty24 0 rfl rfl rfl (oc (SlR.one ((hS.get 0 rfl) : SlR R_KeyD _ _ _ _)) on) fun w hk hS => ?_)
              refine wpList_nil ?_
              try simp only [Exit.then, Exit.inBlock, ↓reduceIte, Nat.reduceEqDiff]
              refine hK1875 _ _ ?_
              refine wp_seq_k fun K1876 hK1876 => ?_
              refine r_list ?_
              refine wl rfl (ky (v := .agg #[v17464]) hS (y_load hS rfl ty24 0 rfl id (us := [v17464]) rfl rfl (fun h => by cases h)) rfl rfl fun a hS => ?_)
              refine wl rfl (ky (v := .agg #[.int .i64 k_2.Kind, .string k_2.Text]) hS (y_load hS rfl ty26 2 rfl id (us := [.int .i64 k_2.Kind, .string k_2.Text]) rfl rfl (fun h => by cases h)) rfl rfl fun a hS => ?_)
              obtain ⟨u17475, hu17475, hM⟩ := bd hM
              refine wl rfl (k_call hS ci15 rfl rfl (deque_Push_c _ _ hS.dlt (hS.get 4 rfl) e17463 k_2 _ (hS.get 0 rfl) _ hu17475) fun _ w hR a hk hA => ?_)
              obtain ⟨vz17476_2, clz17476_3, he, ⟨hOvz17476_2, hFvz17476_2, hRvz17476_2⟩⟩ := hR
              replace he := he.symm
              subst he
              have hS := hA [.own vz17476_2 26 R_KeyD.size clz17476_3] (adds1 ⟨hOvz17476_2, by decide⟩ hFvz17476_2) (pw1 _)
              replace hS := hS.fact (RowsF R_KeyD clz17476_3 u17475.1.Keys) (hRvz17476_2.keep (Kt.refl _ _) (dT_dT _))
              refine wl rfl (ky (v := .tuple #[.agg #[vz17476_2], .int .i64 u17475.2]) hS (y_move hS rfl) rfl rfl fun a hS => ?_)
              refine wl rfl (ky (v := .agg #[vz17476_2]) hS (y_ex hS rfl rfl) rfl rfl fun a hS => ?_)
              refine wl rfl (ky (v := .int .i64 u17475.2) hS (y_ex hS rfl rfl) rfl rfl fun a hS => ?_)
              refine wl rfl (k_alloc hS ze24 rfl fun b17478 hnb17480 a w hk hS => ?_)
              refine wl rfl (k_store hS rfl rfl (us := [vz17476_2]) rfl ty24 0 rfl rfl rfl (oc (own_one (hS.own _ (List.mem_of_getElem? (i := 1) rfl)).1) on) fun w hk hS => ?_)
              refine wl rfl (ky (v := .int .i64 u17475.2) hS (y_assign hS rfl) rfl rfl fun a hS => ?_)
              refine wpList_nil ?_
              try simp only [Exit.then, Exit.inBlock, ↓reduceIte, Nat.reduceEqDiff]
              refine hK1876 _ _ ?_
              refine wp_seq_k fun K1877 hK1877 => ?_
              refine r_list ?_
              refine wl rfl (ky (v := .agg #[v17464]) hS (y_load hS rfl ty24 2 rfl id (us := [v17464]) rfl rfl (fun h => by cases h)) rfl rfl fun a hS => ?_)
              refine wl rfl (ky (v := .agg #[.int .i64 k_2.Kind, .string k_2.Text]) hS (y_load hS rfl ty26 4 rfl id (us := [.int .i64 k_2.Kind, .string k_2.Text]) rfl rfl (fun h => by cases h)) rfl rfl fun a hS => ?_)
              obtain ⟨u17481, hu17481, hM⟩ := bd hM
              refine wl rfl (k_call hS ci16 rfl rfl (ref32_Push_c _ _ hS.dlt e17463 k_2 _ (hS.get 1 rfl) _ hu17481) fun _ w hR a hk hA => ?_)
              obtain ⟨vz17482_2, clz17482_3, he, ⟨hOvz17482_2, hFvz17482_2, hRvz17482_2⟩⟩ := hR
              replace he := he.symm
              subst he
              have hS := hA [.own vz17482_2 26 R_KeyD.size clz17482_3] (adds1 ⟨hOvz17482_2, by decide⟩ hFvz17482_2) (pw1 _)
              replace hS := hS.fact (RowsF R_KeyD clz17482_3 u17481.1.Keys) (hRvz17482_2.keep (Kt.refl _ _) (dT_dT _))
              refine wl rfl (ky (v := .tuple #[.agg #[vz17482_2], .int .i64 u17481.2]) hS (y_move hS rfl) rfl rfl fun a hS => ?_)
              refine wl rfl (ky (v := .agg #[vz17482_2]) hS (y_ex hS rfl rfl) rfl rfl fun a hS => ?_)
              refine wl rfl (ky (v := .int .i64 u17481.2) hS (y_ex hS rfl rfl) rfl rfl fun a hS => ?_)
              refine wl rfl (k_alloc hS ze24 rfl fun b17484 hnb17486 a w hk hS => ?_)
              refine wl rfl (k_store hS rfl rfl (us := [vz17482_2]) rfl ty24 0 rfl rfl rfl (oc (own_one (hS.own _ (List.mem_of_getElem? (i := 1) rfl)).1) on) fun w hk hS => ?_)
              refine wl rfl (ky (v := .int .i64 u17481.2) hS (y_assign hS rfl) rfl rfl fun a hS => ?_)
              refine wpList_nil ?_
              try simp only [Exit.then, Exit.inBlock, ↓reduceIte, Nat.reduceEqDiff]
              refine hK1877 _ _ ?_
              refine wp_seq_k fun K1878 hK1878 => ?_
              refine wp_seq_k fun K1879 hK1879 => ?_
              refine draws [] hS mixed rfl (fun c a d v w h => by cases d <;> exact h) fun w hQ hS => ?_
              refine dy (l := []) 0 (v := .agg #[v17464]) rfl (by kernel_rfl) (by kernel_rfl) (by kernel_rfl) (by kernel_rfl) hQ hS (y_load hS rfl ty24 4 rfl eo_nil (us := [v17464]) rfl rfl (fun h => by cases h)) rfl rfl rfl fun a hS => ?_
              refine dy (l := []) 2 (v := .agg #[v17464]) rfl (by kernel_rfl) (by kernel_rfl) (by kernel_rfl) (by kernel_rfl) hQ hS (y_load hS rfl ty24 4 rfl eo_nil (us := [v17464]) rfl rfl (fun h => by cases h)) rfl rfl rfl fun a hS => ?_
              obtain ⟨u17511, hu17511, hM⟩ := bd hM
              refine wpE_one (i := 1) rfl (by kernel_rfl) rfl (k_call hS ci17 rfl rfl (deque_Valid_c _ _ hS.dlt (hS.get 6 rfl) e17463 _ (hS.get 2 rfl) _ hu17511) fun _ w hR a hk hA => ⟨stN (hk), ?_⟩)
              have he := Eq.symm hR
              subst he
              have hS := hA [] (fun r hr => by cases hr) List.Pairwise.nil
              obtain ⟨u17513, hu17513, hM⟩ := bd hM
              refine wpE_one (i := 3) rfl (by kernel_rfl) rfl (k_call hS ci18 rfl rfl (ref32_Valid_c _ _ hS.dlt e17463 _ (hS.get 2 rfl) _ hu17513) fun _ w hR a hk hA => ⟨stN (hk), ?_⟩)
              have he := Eq.symm hR
              subst he
              have hS := hA [] (fun r hr => by cases hr) List.Pairwise.nil
              refine dy 4 (v := .bool (u17511 != u17513)) rfl (by kernel_rfl) (by kernel_rfl) (by kernel_rfl) rfl hQ hS (y_bool hS rfl rfl Tryd.underlying4 (.inr ⟨rfl, rfl⟩)) rfl rfl rfl fun a hS => ?_
              refine dy 5 (v := .bool (u17511 != u17513)) rfl (by kernel_rfl) (by kernel_rfl) (by kernel_rfl) rfl hQ hS (y_move hS rfl) rfl rfl rfl fun a hS => ?_
              rcases bool2 (u17511 != u17513) with hb17515 | hb17515
              · replace hM := ct hb17515 hM
                refine dyn 6 rfl (by kernel_rfl) (by kernel_rfl) (by kernel_rfl) hQ hS rfl rfl rfl hb17515 rfl rfl fun a hS => ?_
                refine dyn 7 rfl (by kernel_rfl) (by kernel_rfl) (by kernel_rfl) hQ hS rfl rfl rfl hb17515 rfl rfl fun a hS => ?_
                refine dyn 8 rfl (by kernel_rfl) (by kernel_rfl) (by kernel_rfl) hQ hS rfl rfl rfl hb17515 rfl rfl fun a hS => ?_
                refine dyn 9 rfl (by kernel_rfl) (by kernel_rfl) (by kernel_rfl) hQ hS rfl rfl rfl hb17515 rfl rfl fun a hS => ?_
                refine dy 10 (v := .bool true) rfl (by kernel_rfl) (by kernel_rfl) (by kernel_rfl) rfl hQ hS (y_pickt hS rfl hb17515 rfl) rfl rfl rfl fun a hS => ?_
                refine dy 11 (v := .bool true) rfl (by kernel_rfl) (by kernel_rfl) (by kernel_rfl) rfl hQ hS (y_move hS rfl) rfl rfl rfl fun a hS => ?_
                refine dyn 12 rfl (by kernel_rfl) (by kernel_rfl) (by kernel_rfl) hQ hS rfl rfl rfl rfl rfl rfl fun a hS => ?_
                refine dyn 13 rfl (by kernel_rfl) (by kernel_rfl) (by kernel_rfl) hQ hS rfl rfl rfl rfl rfl rfl fun a hS => ?_
                refine dyn 14 rfl (by kernel_rfl) (by kernel_rfl) (by kernel_rfl) hQ hS rfl rfl rfl rfl rfl rfl fun a hS => ?_
                refine dy 15 (v := .bool true) rfl (by kernel_rfl) (by kernel_rfl) (by kernel_rfl) rfl hQ hS (y_pickt hS rfl rfl rfl) rfl rfl rfl fun a hS => ?_
                refine wpE_done (by kernel_rfl) ?_ _
                try simp only [Exit.then, Exit.inBlock, ↓reduceIte, Nat.reduceEqDiff]
                refine hK1879 _ _ ?_
                refine c_t hS rfl rfl ?_
                refine wp_seq_k fun K1880 hK1880 => ?_
                refine r_list ?_
                refine wl rfl (ky (v := .bool false) hS (y_assign hS rfl) rfl rfl fun a hS => ?_)
                refine wpList_nil ?_
                try simp only [Exit.then, Exit.inBlock, ↓reduceIte, Nat.reduceEqDiff]
                refine hK1880 _ _ ?_
                refine wp_ret ?_
                injection hM with hM
                subst hM
                have hr := hf1 _ rfl
                subst hr
                replace hMo1 := el_out hMo1
                have hM := hMo1
                injection hM with hM
                subst hM
                try simp only [Exit.then, Exit.inBlock, ↓reduceIte, Nat.reduceEqDiff]
                refine ret_ok hS Tryd.results3 (res_tmp hS rfl res_nil) ?_
                exact rfl
              · replace hM := cf hb17515 hM
                refine dyg (l := []) 6 (v := .agg #[vz17476_2]) rfl (by kernel_rfl) (by kernel_rfl) (by kernel_rfl) (by kernel_rfl) hQ hS (y_load hS rfl ty24 2 rfl eo_nil (us := [vz17476_2]) rfl rfl (fun h => by cases h)) rfl rfl rfl hb17515 rfl rfl fun a hS => ?_
                refine dyg (l := []) 7 (v := .agg #[vz17482_2]) rfl (by kernel_rfl) (by kernel_rfl) (by kernel_rfl) (by kernel_rfl) hQ hS (y_load hS rfl ty24 0 rfl eo_nil (us := [vz17482_2]) rfl rfl (fun h => by cases h)) rfl rfl rfl hb17515 rfl rfl fun a hS => ?_
                have hL := hS
                replace hL := hL.freeze (R := R_KeyD) 3 rfl 1 rfl
                replace hL := hL.freeze (R := R_KeyD) 1 rfl 1 rfl
                obtain ⟨u17516, hu17516, hM⟩ := bd hM
                refine wpE_oneg (i := 8) rfl (by kernel_rfl) hS rfl rfl rfl hb17515 (k_call hS ci19 rfl rfl (ref32_Same_c _ _ hL.dlt (DequeD.mk u17475.1.Keys) (DequeD.mk u17481.1.Keys) _ _ (hL.get 1 rfl) (hL.get 0 rfl) _ hu17516) fun _ w hR a hk hA => ⟨stN (hk), ?_⟩)
                have he := Eq.symm hR
                subst he
                have hS := hA [] (fun r hr => by cases hr) List.Pairwise.nil
                refine dyg 9 (v := .bool (!(u17516))) rfl (by kernel_rfl) (by kernel_rfl) (by kernel_rfl) rfl hQ hS (y_not hS rfl) rfl rfl rfl hb17515 rfl rfl fun a hS => ?_
                refine dy 10 (v := .bool (!(u17516))) rfl (by kernel_rfl) (by kernel_rfl) (by kernel_rfl) rfl hQ hS (y_pickf hS rfl hb17515 rfl) rfl rfl rfl fun a hS => ?_
                refine dy 11 (v := .bool (!(u17516))) rfl (by kernel_rfl) (by kernel_rfl) (by kernel_rfl) rfl hQ hS (y_move hS rfl) rfl rfl rfl fun a hS => ?_
                rcases bool2 (!(u17516)) with hb17518 | hb17518
                · replace hM := ct hb17518 hM
                  refine dyn 12 rfl (by kernel_rfl) (by kernel_rfl) (by kernel_rfl) hQ hS rfl rfl rfl hb17518 rfl rfl fun a hS => ?_
                  refine dyn 13 rfl (by kernel_rfl) (by kernel_rfl) (by kernel_rfl) hQ hS rfl rfl rfl hb17518 rfl rfl fun a hS => ?_
                  refine dyn 14 rfl (by kernel_rfl) (by kernel_rfl) (by kernel_rfl) hQ hS rfl rfl rfl hb17518 rfl rfl fun a hS => ?_
                  refine dy 15 (v := .bool true) rfl (by kernel_rfl) (by kernel_rfl) (by kernel_rfl) rfl hQ hS (y_pickt hS rfl hb17518 rfl) rfl rfl rfl fun a hS => ?_
                  refine wpE_done (by kernel_rfl) ?_ _
                  try simp only [Exit.then, Exit.inBlock, ↓reduceIte, Nat.reduceEqDiff]
                  refine hK1879 _ _ ?_
                  refine c_t hS rfl rfl ?_
                  refine wp_seq_k fun K1881 hK1881 => ?_
                  refine r_list ?_
                  refine wl rfl (ky (v := .bool false) hS (y_assign hS rfl) rfl rfl fun a hS => ?_)
                  refine wpList_nil ?_
                  try simp only [Exit.then, Exit.inBlock, ↓reduceIte, Nat.reduceEqDiff]
                  refine hK1881 _ _ ?_
                  refine wp_ret ?_
                  injection hM with hM
                  subst hM
                  have hr := hf1 _ rfl
                  subst hr
                  replace hMo1 := el_out hMo1
                  have hM := hMo1
                  injection hM with hM
                  subst hM
                  try simp only [Exit.then, Exit.inBlock, ↓reduceIte, Nat.reduceEqDiff]
                  refine ret_ok hS Tryd.results3 (res_tmp hS rfl res_nil) ?_
                  exact rfl
                · replace hM := cf hb17518 hM
                  refine dyg 12 (v := .int .i64 u17475.2) rfl (by kernel_rfl) (by kernel_rfl) (by kernel_rfl) rfl hQ hS (y_move hS rfl) rfl rfl rfl hb17518 rfl rfl fun a hS => ?_
                  refine dyg 13 (v := .int .i64 u17481.2) rfl (by kernel_rfl) (by kernel_rfl) (by kernel_rfl) rfl hQ hS (y_move hS rfl) rfl rfl rfl hb17518 rfl rfl fun a hS => ?_
                  refine dyg 14 (v := .bool ((u17475.2 : Int) != u17481.2)) rfl (by kernel_rfl) (by kernel_rfl) (by kernel_rfl) rfl hQ hS (y_int hS rfl rfl rfl) rfl rfl rfl hb17518 rfl rfl fun a hS => ?_
                  refine dy 15 (v := .bool ((u17475.2 : Int) != u17481.2)) rfl (by kernel_rfl) (by kernel_rfl) (by kernel_rfl) rfl hQ hS (y_pickf hS rfl hb17518 rfl) rfl rfl rfl fun a hS => ?_
                  refine wpE_done (by kernel_rfl) ?_ _
                  try simp only [Exit.then, Exit.inBlock, ↓reduceIte, Nat.reduceEqDiff]
                  refine hK1879 _ _ ?_
                  rcases bool2 ((u17475.2 : Int) != u17481.2) with hb17519 | hb17519
                  · replace hM := ct hb17519 hM
                    refine c_t hS rfl hb17519 ?_
                    refine wp_seq_k fun K1882 hK1882 => ?_
                    refine r_list ?_
                    refine wl rfl (ky (v := .bool false) hS (y_assign hS rfl) rfl rfl fun a hS => ?_)
                    refine wpList_nil ?_
                    try simp only [Exit.then, Exit.inBlock, ↓reduceIte, Nat.reduceEqDiff]
                    refine hK1882 _ _ ?_
                    refine wp_ret ?_
                    injection hM with hM
                    subst hM
                    have hr := hf1 _ rfl
                    subst hr
                    replace hMo1 := el_out hMo1
                    have hM := hMo1
                    injection hM with hM
                    subst hM
                    try simp only [Exit.then, Exit.inBlock, ↓reduceIte, Nat.reduceEqDiff]
                    refine ret_ok hS Tryd.results3 (res_tmp hS rfl res_nil) ?_
                    exact rfl
                  · replace hM := cf hb17519 hM
                    refine c_f hS rfl hb17519 ?_
                    refine wp_skip ?_
                    try simp only [Exit.then, Exit.inBlock, ↓reduceIte, Nat.reduceEqDiff]
                    refine hK1878 _ _ ?_
                    refine wp_seq_k fun K1883 hK1883 => ?_
                    refine draws [(6, .blk (some b17478))] hS mixed rfl (fun c a d v w h => by cases d <;> exact h) fun w hQ hS => ?_
                    refine dy (l := []) 0 (v := .agg #[v17464]) rfl (by kernel_rfl) (by kernel_rfl) (by kernel_rfl) (by kernel_rfl) hQ hS (y_load hS rfl ty24 4 rfl eo_nil (us := [v17464]) rfl rfl (fun h => by cases h)) rfl rfl rfl fun a hS => ?_
                    obtain ⟨u17535, hu17535, hM⟩ := bd hM
                    refine wpE_one (i := 1) rfl (by kernel_rfl) rfl (k_call hS ci14 rfl rfl (ref23_Cell_c _ _ hS.dlt (hS.get 6 rfl) 5 _ hu17535) fun _ w hR a hk hA => ⟨stN (hk), ?_⟩)
                    have he := Eq.symm hR
                    subst he
                    have hS := hA [] (fun r hr => by cases hr) List.Pairwise.nil
                    obtain ⟨u17537, hu17537, hM⟩ := bd hM
                    refine wpE_one (i := 2) rfl (by kernel_rfl) rfl (k_call hS ci15 rfl rfl (deque_Push_c _ _ hS.dlt (hS.get 6 rfl) e17463 u17535 _ (hS.get 2 rfl) _ hu17537) fun _ w hR a hk hA => ⟨stN (hk), ?_⟩)
                    obtain ⟨vz17538_2, clz17538_3, he, ⟨hOvz17538_2, hFvz17538_2, hRvz17538_2⟩⟩ := hR
                    replace he := he.symm
                    subst he
                    have hS := hA [.own vz17538_2 26 R_KeyD.size clz17538_3] (adds1 ⟨hOvz17538_2, by decide⟩ hFvz17538_2) (pw1 _)
                    replace hS := hS.fact (RowsF R_KeyD clz17538_3 u17537.1.Keys) (hRvz17538_2.keep (Kt.refl _ _) (dT_dT _))
                    refine dy 3 (v := .tuple #[.agg #[vz17538_2], .int .i64 u17537.2]) rfl (by kernel_rfl) (by kernel_rfl) (by kernel_rfl) rfl hQ hS (y_move hS rfl) rfl rfl rfl fun a hS => ?_
                    refine dy 4 (v := .agg #[vz17538_2]) rfl (by kernel_rfl) (by kernel_rfl) (by kernel_rfl) rfl hQ hS (y_ex hS rfl rfl) rfl rfl rfl fun a hS => ?_
                    refine dy 5 (v := .int .i64 u17537.2) rfl (by kernel_rfl) (by kernel_rfl) (by kernel_rfl) rfl hQ hS (y_ex hS rfl rfl) rfl rfl rfl fun a hS => ?_
                    refine wpE_one (i := 6) rfl (by kernel_rfl) rfl (k_store hS rfl rfl (us := [vz17538_2]) rfl ty24 3 rfl rfl rfl (oc (own_one (hS.own _ (List.mem_of_getElem? (i := 0) rfl)).1) on) fun w hk hS => ⟨stM rfl hk etBox, ?_⟩)
                    refine dy 7 (v := .int .i64 u17537.2) rfl (by kernel_rfl) (by kernel_rfl) (by kernel_rfl) rfl hQ hS (y_assign hS rfl) rfl rfl rfl fun a hS => ?_
                    refine wpE_done (by kernel_rfl) ?_ _
                    try simp only [Exit.then, Exit.inBlock, ↓reduceIte, Nat.reduceEqDiff]
                    refine hK1883 _ _ ?_
                    refine wp_seq_k fun K1884 hK1884 => ?_
                    refine draws [(6, .blk (some b17484))] hS mixed rfl (fun c a d v w h => by cases d <;> exact h) fun w hQ hS => ?_
                    refine dy (l := []) 0 (v := .agg #[v17464]) rfl (by kernel_rfl) (by kernel_rfl) (by kernel_rfl) (by kernel_rfl) hQ hS (y_load hS rfl ty24 5 rfl eo_nil (us := [v17464]) rfl rfl (fun h => by cases h)) rfl rfl rfl fun a hS => ?_
                    obtain ⟨u17555, hu17555, hM⟩ := bd hM
                    refine wpE_one (i := 1) rfl (by kernel_rfl) rfl (k_call hS ci14 rfl rfl (ref23_Cell_c _ _ hS.dlt (hS.get 7 rfl) 5 _ hu17555) fun _ w hR a hk hA => ⟨stN (hk), ?_⟩)
                    have he := Eq.symm hR
                    subst he
                    have hS := hA [] (fun r hr => by cases hr) List.Pairwise.nil
                    obtain ⟨u17557, hu17557, hM⟩ := bd hM
                    refine wpE_one (i := 2) rfl (by kernel_rfl) rfl (k_call hS ci16 rfl rfl (ref32_Push_c _ _ hS.dlt e17463 u17555 _ (hS.get 3 rfl) _ hu17557) fun _ w hR a hk hA => ⟨stN (hk), ?_⟩)
                    obtain ⟨vz17558_2, clz17558_3, he, ⟨hOvz17558_2, hFvz17558_2, hRvz17558_2⟩⟩ := hR
                    replace he := he.symm
                    subst he
                    have hS := hA [.own vz17558_2 26 R_KeyD.size clz17558_3] (adds1 ⟨hOvz17558_2, by decide⟩ hFvz17558_2) (pw1 _)
                    replace hS := hS.fact (RowsF R_KeyD clz17558_3 u17557.1.Keys) (hRvz17558_2.keep (Kt.refl _ _) (dT_dT _))
                    refine dy 3 (v := .tuple #[.agg #[vz17558_2], .int .i64 u17557.2]) rfl (by kernel_rfl) (by kernel_rfl) (by kernel_rfl) rfl hQ hS (y_move hS rfl) rfl rfl rfl fun a hS => ?_
                    refine dy 4 (v := .agg #[vz17558_2]) rfl (by kernel_rfl) (by kernel_rfl) (by kernel_rfl) rfl hQ hS (y_ex hS rfl rfl) rfl rfl rfl fun a hS => ?_
                    refine dy 5 (v := .int .i64 u17557.2) rfl (by kernel_rfl) (by kernel_rfl) (by kernel_rfl) rfl hQ hS (y_ex hS rfl rfl) rfl rfl rfl fun a hS => ?_
                    refine wpE_one (i := 6) rfl (by kernel_rfl) rfl (k_store hS rfl rfl (us := [vz17558_2]) rfl ty24 2 rfl rfl rfl (oc (own_one (hS.own _ (List.mem_of_getElem? (i := 0) rfl)).1) on) fun w hk hS => ⟨stM rfl hk etBox, ?_⟩)
                    refine dy 7 (v := .int .i64 u17557.2) rfl (by kernel_rfl) (by kernel_rfl) (by kernel_rfl) rfl hQ hS (y_assign hS rfl) rfl rfl rfl fun a hS => ?_
                    refine wpE_done (by kernel_rfl) ?_ _
                    try simp only [Exit.then, Exit.inBlock, ↓reduceIte, Nat.reduceEqDiff]
                    refine hK1884 _ _ ?_
                    refine wp_seq_k fun K1885 hK1885 => ?_
                    refine r_list ?_
                    refine wl rfl (ky (v := .agg #[v17464]) hS (y_load hS rfl ty24 6 rfl id (us := [v17464]) rfl rfl (fun h => by cases h)) rfl rfl fun a hS => ?_)
                    obtain ⟨u17560, hu17560, hM⟩ := bd hM
                    refine wl rfl (k_call hS ci20 rfl rfl (deque_Pop_c _ _ hS.dlt e17463 _ (hS.get 4 rfl) _ hu17560) fun _ w hR a hk hA => ?_)
                    obtain ⟨vz17561_2, clz17561_3, he, ⟨hOvz17561_2, hFvz17561_2, hRvz17561_2⟩⟩ := hR
                    replace he := he.symm
                    subst he
                    have hS := hA [.own vz17561_2 26 R_KeyD.size clz17561_3] (adds1 ⟨hOvz17561_2, by decide⟩ hFvz17561_2) (pw1 _)
                    replace hS := hS.fact (RowsF R_KeyD clz17561_3 u17560.1.Keys) (hRvz17561_2.keep (Kt.refl _ _) (dT_dT _))
                    refine wl rfl (ky (v := .tuple #[.agg #[vz17561_2], .agg #[.int .i64 u17560.2.1.Kind, .string u17560.2.1.Text], .bool u17560.2.2]) hS (y_move hS rfl) rfl rfl fun a hS => ?_)
                    refine wl rfl (ky (v := .agg #[vz17561_2]) hS (y_ex hS rfl rfl) rfl rfl fun a hS => ?_)
                    refine wl rfl (ky (v := .agg #[.int .i64 u17560.2.1.Kind, .string u17560.2.1.Text]) hS (y_ex hS rfl rfl) rfl rfl fun a hS => ?_)
                    refine wl rfl (ky (v := .bool u17560.2.2) hS (y_ex hS rfl rfl) rfl rfl fun a hS => ?_)
                    refine wl rfl (k_alloc hS ze24 rfl fun b17563 hnb17565 a w hk hS => ?_)
                    refine wl rfl (k_alloc hS ze26 rfl fun b17566 hnb17568 a w hk hS => ?_)
                    refine wl rfl (k_store hS rfl rfl (us := [vz17561_2]) rfl ty24 1 rfl rfl rfl (oc (own_one (hS.own _ (List.mem_of_getElem? (i := 2) rfl)).1) on) fun w hk hS => ?_)
                    refine wl rfl (k_store hS rfl rfl (us := [.int .i64 u17560.2.1.Kind, .string u17560.2.1.Text]) rfl ty26 0 rfl rfl rfl (oc rfl (oc rfl on)) fun w hk hS => ?_)
                    refine wl rfl (ky (v := .bool u17560.2.2) hS (y_assign hS rfl) rfl rfl fun a hS => ?_)
                    refine wpList_nil ?_
                    try simp only [Exit.then, Exit.inBlock, ↓reduceIte, Nat.reduceEqDiff]
                    refine hK1885 _ _ ?_
                    refine wp_seq_k fun K1886 hK1886 => ?_
                    refine r_list ?_
                    refine wl rfl (ky (v := .agg #[v17464]) hS (y_load hS rfl ty24 9 rfl id (us := [v17464]) rfl rfl (fun h => by cases h)) rfl rfl fun a hS => ?_)
                    obtain ⟨u17569, hu17569, hM⟩ := bd hM
                    refine wl rfl (k_call hS ci21 rfl rfl (ref32_Pop_c _ _ hS.dlt e17463 _ (hS.get 5 rfl) _ hu17569) fun _ w hR a hk hA => ?_)
                    obtain ⟨vz17570_2, he, hRvz17570_2⟩ := hR
                    replace he := he.symm
                    subst he
                    have hS := hA [] (fun r hr => by cases hr) List.Pairwise.nil
                    replace hS := hS.fact (SlF R_KeyD vz17570_2 u17569.1.Keys) (hRvz17570_2.sub (dT_dT _))
                    refine wl rfl (ky (v := .tuple #[.agg #[vz17570_2], .agg #[.int .i64 u17569.2.1.Kind, .string u17569.2.1.Text], .bool u17569.2.2]) hS (y_move hS rfl) rfl rfl fun a hS => ?_)
                    refine wl rfl (ky (v := .agg #[vz17570_2]) hS (y_ex hS rfl rfl) rfl rfl fun a hS => ?_)
                    refine wl rfl (ky (v := .agg #[.int .i64 u17569.2.1.Kind, .string u17569.2.1.Text]) hS (y_ex hS rfl rfl) rfl rfl fun a hS => ?_)
                    refine wl rfl (ky (v := .bool u17569.2.2) hS (y_ex hS rfl rfl) rfl rfl fun a hS => ?_)
                    refine wl rfl (k_alloc hS ze24 rfl fun b17571 hnb17573 a w hk hS => ?_)
                    refine wl rfl (k_alloc hS ze26 rfl fun b17574 hnb17576 a w hk hS => ?_)
                    refine wl rfl (k_store hS rfl rfl (us := [vz17570_2]) rfl ty24 1 rfl rfl rfl (oc (SlR.one ((hS.get 0 rfl) : SlR R_KeyD _ _ _ _)) on) fun w hk hS => ?_)
                    refine wl rfl (k_store hS rfl rfl (us := [.int .i64 u17569.2.1.Kind, .string u17569.2.1.Text]) rfl ty26 0 rfl rfl rfl (oc rfl (oc rfl on)) fun w hk hS => ?_)
                    refine wl rfl (ky (v := .bool u17569.2.2) hS (y_assign hS rfl) rfl rfl fun a hS => ?_)
                    refine wpList_nil ?_
                    try simp only [Exit.then, Exit.inBlock, ↓reduceIte, Nat.reduceEqDiff]
                    refine hK1886 _ _ ?_
                    refine wp_seq_k fun K1887 hK1887 => ?_
                    refine r_list ?_
                    refine wl rfl (ky (v := .agg #[v17464]) hS (y_load hS rfl ty24 11 rfl id (us := [v17464]) rfl rfl (fun h => by cases h)) rfl rfl fun a hS => ?_)
                    obtain ⟨u17577, hu17577, hM⟩ := bd hM
                    refine wl rfl (k_call hS ci22 rfl rfl (deque_Steal_c _ _ hS.dlt e17463 _ (hS.get 6 rfl) _ hu17577) fun _ w hR a hk hA => ?_)
                    obtain ⟨vz17578_2, clz17578_3, he, ⟨hOvz17578_2, hFvz17578_2, hRvz17578_2⟩⟩ := hR
                    replace he := he.symm
                    subst he
                    have hS := hA [.own vz17578_2 26 R_KeyD.size clz17578_3] (adds1 ⟨hOvz17578_2, by decide⟩ hFvz17578_2) (pw1 _)
                    replace hS := hS.fact (RowsF R_KeyD clz17578_3 u17577.1.Keys) (hRvz17578_2.keep (Kt.refl _ _) (dT_dT _))
                    refine wl rfl (ky (v := .tuple #[.agg #[vz17578_2], .agg #[.int .i64 u17577.2.1.Kind, .string u17577.2.1.Text], .bool u17577.2.2]) hS (y_move hS rfl) rfl rfl fun a hS => ?_)
                    refine wl rfl (ky (v := .agg #[vz17578_2]) hS (y_ex hS rfl rfl) rfl rfl fun a hS => ?_)
                    refine wl rfl (ky (v := .agg #[.int .i64 u17577.2.1.Kind, .string u17577.2.1.Text]) hS (y_ex hS rfl rfl) rfl rfl fun a hS => ?_)
                    refine wl rfl (ky (v := .bool u17577.2.2) hS (y_ex hS rfl rfl) rfl rfl fun a hS => ?_)
                    refine wl rfl (k_alloc hS ze24 rfl fun b17580 hnb17582 a w hk hS => ?_)
                    refine wl rfl (k_alloc hS ze26 rfl fun b17583 hnb17585 a w hk hS => ?_)
                    refine wl rfl (k_store hS rfl rfl (us := [vz17578_2]) rfl ty24 1 rfl rfl rfl (oc (own_one (hS.own _ (List.mem_of_getElem? (i := 2) rfl)).1) on) fun w hk hS => ?_)
                    refine wl rfl (k_store hS rfl rfl (us := [.int .i64 u17577.2.1.Kind, .string u17577.2.1.Text]) rfl ty26 0 rfl rfl rfl (oc rfl (oc rfl on)) fun w hk hS => ?_)
                    refine wl rfl (ky (v := .bool u17577.2.2) hS (y_assign hS rfl) rfl rfl fun a hS => ?_)
                    refine wpList_nil ?_
                    try simp only [Exit.then, Exit.inBlock, ↓reduceIte, Nat.reduceEqDiff]
                    refine hK1887 _ _ ?_
                    refine wp_seq_k fun K1888 hK1888 => ?_
                    refine r_list ?_
                    refine wl rfl (ky (v := .agg #[v17464]) hS (y_load hS rfl ty24 14 rfl id (us := [v17464]) rfl rfl (fun h => by cases h)) rfl rfl fun a hS => ?_)
                    obtain ⟨u17586, hu17586, hM⟩ := bd hM
                    refine wl rfl (k_call hS ci23 rfl rfl (ref32_Steal_c _ _ hS.dlt e17463 _ (hS.get 7 rfl) _ hu17586) fun _ w hR a hk hA => ?_)
                    obtain ⟨vz17587_2, he, hRvz17587_2⟩ := hR
                    replace he := he.symm
                    subst he
                    have hS := hA [] (fun r hr => by cases hr) List.Pairwise.nil
                    replace hS := hS.fact (SlF R_KeyD vz17587_2 u17586.1.Keys) (hRvz17587_2.sub (dT_dT _))
                    refine wl rfl (ky (v := .tuple #[.agg #[vz17587_2], .agg #[.int .i64 u17586.2.1.Kind, .string u17586.2.1.Text], .bool u17586.2.2]) hS (y_move hS rfl) rfl rfl fun a hS => ?_)
                    refine wl rfl (ky (v := .agg #[vz17587_2]) hS (y_ex hS rfl rfl) rfl rfl fun a hS => ?_)
                    refine wl rfl (ky (v := .agg #[.int .i64 u17586.2.1.Kind, .string u17586.2.1.Text]) hS (y_ex hS rfl rfl) rfl rfl fun a hS => ?_)
                    refine wl rfl (ky (v := .bool u17586.2.2) hS (y_ex hS rfl rfl) rfl rfl fun a hS => ?_)
                    refine wl rfl (k_alloc hS ze24 rfl fun b17588 hnb17590 a w hk hS => ?_)
                    refine wl rfl (k_alloc hS ze26 rfl fun b17591 hnb17593 a w hk hS => ?_)
                    refine wl rfl (k_store hS rfl rfl (us := [vz17587_2]) rfl ty24 1 rfl rfl rfl (oc (SlR.one ((hS.get 0 rfl) : SlR R_KeyD _ _ _ _)) on) fun w hk hS => ?_)
                    refine wl rfl (k_store hS rfl rfl (us := [.int .i64 u17586.2.1.Kind, .string u17586.2.1.Text]) rfl ty26 0 rfl rfl rfl (oc rfl (oc rfl on)) fun w hk hS => ?_)
                    refine wl rfl (ky (v := .bool u17586.2.2) hS (y_assign hS rfl) rfl rfl fun a hS => ?_)
                    refine wpList_nil ?_
                    try simp only [Exit.then, Exit.inBlock, ↓reduceIte, Nat.reduceEqDiff]
                    refine hK1888 _ _ ?_
                    refine wp_seq_k fun K1889 hK1889 => ?_
                    refine r_list ?_
                    refine wl rfl (ky (v := .agg #[vz17538_2]) hS (y_load hS rfl ty24 14 rfl id (us := [vz17538_2]) rfl rfl (fun h => by cases h)) rfl rfl fun a hS => ?_)
                    refine wl rfl (ky (v := .agg #[vz17558_2]) hS (y_load hS rfl ty24 12 rfl id (us := [vz17558_2]) rfl rfl (fun h => by cases h)) rfl rfl fun a hS => ?_)
                    have hL := hS
                    replace hL := hL.freeze (R := R_KeyD) 11 rfl 5 rfl
                    replace hL := hL.freeze (R := R_KeyD) 10 rfl 5 rfl
                    obtain ⟨u17607, hu17607, hM⟩ := bd hM
                    refine wl rfl (k_call hS ci19 rfl rfl (ref32_Same_c _ _ hL.dlt (DequeD.mk u17537.1.Keys) (DequeD.mk u17557.1.Keys) _ _ (hL.get 1 rfl) (hL.get 0 rfl) _ hu17607) fun _ w hR a hk hA => ?_)
                    have he := Eq.symm hR
                    subst he
                    have hS := hA [] (fun r hr => by cases hr) List.Pairwise.nil
                    refine wl rfl (ky (v := .bool (!(u17607))) hS (y_not hS rfl) rfl rfl fun a hS => ?_)
                    refine wl rfl (ky (v := .bool (!(u17607))) hS (y_move hS rfl) rfl rfl fun a hS => ?_)
                    rcases bool2 (!(u17607)) with hb17609 | hb17609
                    · replace hM := ct hb17609 hM
                      refine wn hS rfl rfl rfl hb17609 rfl rfl fun a hS => ?_
                      refine wn hS rfl rfl rfl hb17609 rfl rfl fun a hS => ?_
                      refine wn hS rfl rfl rfl hb17609 rfl rfl fun a hS => ?_
                      refine wl rfl (ky (v := .bool true) hS (y_pickt hS rfl hb17609 rfl) rfl rfl fun a hS => ?_)
                      refine wl rfl (ky (v := .bool true) hS (y_move hS rfl) rfl rfl fun a hS => ?_)
                      refine wn hS rfl rfl rfl rfl rfl rfl fun a hS => ?_
                      refine wn hS rfl rfl rfl rfl rfl rfl fun a hS => ?_
                      refine wn hS rfl rfl rfl rfl rfl rfl fun a hS => ?_
                      refine wn hS rfl rfl rfl rfl rfl rfl fun a hS => ?_
                      refine wl rfl (ky (v := .bool true) hS (y_pickt hS rfl rfl rfl) rfl rfl fun a hS => ?_)
                      refine wl rfl (ky (v := .bool true) hS (y_move hS rfl) rfl rfl fun a hS => ?_)
                      refine wn hS rfl rfl rfl rfl rfl rfl fun a hS => ?_
                      refine wn hS rfl rfl rfl rfl rfl rfl fun a hS => ?_
                      refine wn hS rfl rfl rfl rfl rfl rfl fun a hS => ?_
                      refine wl rfl (ky (v := .bool true) hS (y_pickt hS rfl rfl rfl) rfl rfl fun a hS => ?_)
                      refine wl rfl (ky (v := .bool true) hS (y_move hS rfl) rfl rfl fun a hS => ?_)
                      refine wn hS rfl rfl rfl rfl rfl rfl fun a hS => ?_
                      refine wn hS rfl rfl rfl rfl rfl rfl fun a hS => ?_
                      refine wn hS rfl rfl rfl rfl rfl rfl fun a hS => ?_
                      refine wl rfl (ky (v := .bool true) hS (y_pickt hS rfl rfl rfl) rfl rfl fun a hS => ?_)
                      refine wl rfl (ky (v := .bool true) hS (y_move hS rfl) rfl rfl fun a hS => ?_)
                      refine wn hS rfl rfl rfl rfl rfl rfl fun a hS => ?_
                      refine wn hS rfl rfl rfl rfl rfl rfl fun a hS => ?_
                      refine wn hS rfl rfl rfl rfl rfl rfl fun a hS => ?_
                      refine wn hS rfl rfl rfl rfl rfl rfl fun a hS => ?_
                      refine wl rfl (ky (v := .bool true) hS (y_pickt hS rfl rfl rfl) rfl rfl fun a hS => ?_)
                      refine wl rfl (ky (v := .bool true) hS (y_move hS rfl) rfl rfl fun a hS => ?_)
                      refine wn hS rfl rfl rfl rfl rfl rfl fun a hS => ?_
                      refine wn hS rfl rfl rfl rfl rfl rfl fun a hS => ?_
                      refine wn hS rfl rfl rfl rfl rfl rfl fun a hS => ?_
                      refine wl rfl (ky (v := .bool true) hS (y_pickt hS rfl rfl rfl) rfl rfl fun a hS => ?_)
                      refine wl rfl (ky (v := .bool true) hS (y_move hS rfl) rfl rfl fun a hS => ?_)
                      refine wn hS rfl rfl rfl rfl rfl rfl fun a hS => ?_
                      refine wn hS rfl rfl rfl rfl rfl rfl fun a hS => ?_
                      refine wn hS rfl rfl rfl rfl rfl rfl fun a hS => ?_
                      refine wl rfl (ky (v := .bool true) hS (y_pickt hS rfl rfl rfl) rfl rfl fun a hS => ?_)
                      refine wpList_nil ?_
                      try simp only [Exit.then, Exit.inBlock, ↓reduceIte, Nat.reduceEqDiff]
                      refine hK1889 _ _ ?_
                      refine c_t hS rfl rfl ?_
                      refine wp_seq_k fun K1890 hK1890 => ?_
                      refine r_list ?_
                      refine wl rfl (ky (v := .bool false) hS (y_assign hS rfl) rfl rfl fun a hS => ?_)
                      refine wpList_nil ?_
                      try simp only [Exit.then, Exit.inBlock, ↓reduceIte, Nat.reduceEqDiff]
                      refine hK1890 _ _ ?_
                      refine wp_ret ?_
                      injection hM with hM
                      subst hM
                      have hr := hf1 _ rfl
                      subst hr
                      replace hMo1 := el_out hMo1
                      have hM := hMo1
                      injection hM with hM
                      subst hM
                      try simp only [Exit.then, Exit.inBlock, ↓reduceIte, Nat.reduceEqDiff]
                      refine ret_ok hS Tryd.results3 (res_tmp hS rfl res_nil) ?_
                      exact rfl
                    · replace hM := cf hb17609 hM
                      refine wg hS rfl rfl rfl hb17609 (ky (v := .int .i64 u17537.2) hS (y_move hS rfl) rfl rfl fun a hS => ?_)
                      refine wg hS rfl rfl rfl hb17609 (ky (v := .int .i64 u17557.2) hS (y_move hS rfl) rfl rfl fun a hS => ?_)
                      refine wg hS rfl rfl rfl hb17609 (ky (v := .bool ((u17537.2 : Int) != u17557.2)) hS (y_int hS rfl rfl rfl) rfl rfl fun a hS => ?_)
                      refine wl rfl (ky (v := .bool ((u17537.2 : Int) != u17557.2)) hS (y_pickf hS rfl hb17609 rfl) rfl rfl fun a hS => ?_)
                      refine wl rfl (ky (v := .bool ((u17537.2 : Int) != u17557.2)) hS (y_move hS rfl) rfl rfl fun a hS => ?_)
                      rcases bool2 ((u17537.2 : Int) != u17557.2) with hb17610 | hb17610
                      · replace hM := ct hb17610 hM
                        refine wn hS rfl rfl rfl hb17610 rfl rfl fun a hS => ?_
                        refine wn hS rfl rfl rfl hb17610 rfl rfl fun a hS => ?_
                        refine wn hS rfl rfl rfl hb17610 rfl rfl fun a hS => ?_
                        refine wn hS rfl rfl rfl hb17610 rfl rfl fun a hS => ?_
                        refine wl rfl (ky (v := .bool true) hS (y_pickt hS rfl hb17610 rfl) rfl rfl fun a hS => ?_)
                        refine wl rfl (ky (v := .bool true) hS (y_move hS rfl) rfl rfl fun a hS => ?_)
                        refine wn hS rfl rfl rfl rfl rfl rfl fun a hS => ?_
                        refine wn hS rfl rfl rfl rfl rfl rfl fun a hS => ?_
                        refine wn hS rfl rfl rfl rfl rfl rfl fun a hS => ?_
                        refine wl rfl (ky (v := .bool true) hS (y_pickt hS rfl rfl rfl) rfl rfl fun a hS => ?_)
                        refine wl rfl (ky (v := .bool true) hS (y_move hS rfl) rfl rfl fun a hS => ?_)
                        refine wn hS rfl rfl rfl rfl rfl rfl fun a hS => ?_
                        refine wn hS rfl rfl rfl rfl rfl rfl fun a hS => ?_
                        refine wn hS rfl rfl rfl rfl rfl rfl fun a hS => ?_
                        refine wl rfl (ky (v := .bool true) hS (y_pickt hS rfl rfl rfl) rfl rfl fun a hS => ?_)
                        refine wl rfl (ky (v := .bool true) hS (y_move hS rfl) rfl rfl fun a hS => ?_)
                        refine wn hS rfl rfl rfl rfl rfl rfl fun a hS => ?_
                        refine wn hS rfl rfl rfl rfl rfl rfl fun a hS => ?_
                        refine wn hS rfl rfl rfl rfl rfl rfl fun a hS => ?_
                        refine wn hS rfl rfl rfl rfl rfl rfl fun a hS => ?_
                        refine wl rfl (ky (v := .bool true) hS (y_pickt hS rfl rfl rfl) rfl rfl fun a hS => ?_)
                        refine wl rfl (ky (v := .bool true) hS (y_move hS rfl) rfl rfl fun a hS => ?_)
                        refine wn hS rfl rfl rfl rfl rfl rfl fun a hS => ?_
                        refine wn hS rfl rfl rfl rfl rfl rfl fun a hS => ?_
                        refine wn hS rfl rfl rfl rfl rfl rfl fun a hS => ?_
                        refine wl rfl (ky (v := .bool true) hS (y_pickt hS rfl rfl rfl) rfl rfl fun a hS => ?_)
                        refine wl rfl (ky (v := .bool true) hS (y_move hS rfl) rfl rfl fun a hS => ?_)
                        refine wn hS rfl rfl rfl rfl rfl rfl fun a hS => ?_
                        refine wn hS rfl rfl rfl rfl rfl rfl fun a hS => ?_
                        refine wn hS rfl rfl rfl rfl rfl rfl fun a hS => ?_
                        refine wl rfl (ky (v := .bool true) hS (y_pickt hS rfl rfl rfl) rfl rfl fun a hS => ?_)
                        refine wpList_nil ?_
                        try simp only [Exit.then, Exit.inBlock, ↓reduceIte, Nat.reduceEqDiff]
                        refine hK1889 _ _ ?_
                        refine c_t hS rfl rfl ?_
                        refine wp_seq_k fun K1891 hK1891 => ?_
                        refine r_list ?_
                        refine wl rfl (ky (v := .bool false) hS (y_assign hS rfl) rfl rfl fun a hS => ?_)
                        refine wpList_nil ?_
                        try simp only [Exit.then, Exit.inBlock, ↓reduceIte, Nat.reduceEqDiff]
                        refine hK1891 _ _ ?_
                        refine wp_ret ?_
                        injection hM with hM
                        subst hM
                        have hr := hf1 _ rfl
                        subst hr
                        replace hMo1 := el_out hMo1
                        have hM := hMo1
                        injection hM with hM
                        subst hM
                        try simp only [Exit.then, Exit.inBlock, ↓reduceIte, Nat.reduceEqDiff]
                        refine ret_ok hS Tryd.results3 (res_tmp hS rfl res_nil) ?_
                        exact rfl
                      · replace hM := cf hb17610 hM
                        refine wg hS rfl rfl rfl hb17610 (ky (v := .agg #[vz17561_2]) hS (y_load hS rfl ty24 8 rfl id (us := [vz17561_2]) rfl rfl (fun h => by cases h)) rfl rfl fun a hS => ?_)
                        refine wg hS rfl rfl rfl hb17610 (ky (v := .agg #[vz17570_2]) hS (y_load hS rfl ty24 6 rfl id (us := [vz17570_2]) rfl rfl (fun h => by cases h)) rfl rfl fun a hS => ?_)
                        have hL := hS
                        replace hL := hL.freeze (R := R_KeyD) 9 rfl 3 rfl
                        obtain ⟨u17611, hu17611, hM⟩ := bd hM
                        refine wg hS rfl rfl rfl hb17610 (k_call hS ci19 rfl rfl (ref32_Same_c _ _ hL.dlt (DequeD.mk u17560.1.Keys) (DequeD.mk u17569.1.Keys) _ _ (hL.get 0 rfl) (hL.get 3 rfl) _ hu17611) fun _ w hR a hk hA => ?_)
                        have he := Eq.symm hR
                        subst he
                        have hS := hA [] (fun r hr => by cases hr) List.Pairwise.nil
                        refine wg hS rfl rfl rfl hb17610 (ky (v := .bool (!(u17611))) hS (y_not hS rfl) rfl rfl fun a hS => ?_)
                        refine wl rfl (ky (v := .bool (!(u17611))) hS (y_pickf hS rfl hb17610 rfl) rfl rfl fun a hS => ?_)
                        refine wl rfl (ky (v := .bool (!(u17611))) hS (y_move hS rfl) rfl rfl fun a hS => ?_)
                        rcases bool2 (!(u17611)) with hb17613 | hb17613
                        · replace hM := ct hb17613 hM
                          refine wn hS rfl rfl rfl hb17613 rfl rfl fun a hS => ?_
                          refine wn hS rfl rfl rfl hb17613 rfl rfl fun a hS => ?_
                          refine wn hS rfl rfl rfl hb17613 rfl rfl fun a hS => ?_
                          refine wl rfl (ky (v := .bool true) hS (y_pickt hS rfl hb17613 rfl) rfl rfl fun a hS => ?_)
                          refine wl rfl (ky (v := .bool true) hS (y_move hS rfl) rfl rfl fun a hS => ?_)
                          refine wn hS rfl rfl rfl rfl rfl rfl fun a hS => ?_
                          refine wn hS rfl rfl rfl rfl rfl rfl fun a hS => ?_
                          refine wn hS rfl rfl rfl rfl rfl rfl fun a hS => ?_
                          refine wl rfl (ky (v := .bool true) hS (y_pickt hS rfl rfl rfl) rfl rfl fun a hS => ?_)
                          refine wl rfl (ky (v := .bool true) hS (y_move hS rfl) rfl rfl fun a hS => ?_)
                          refine wn hS rfl rfl rfl rfl rfl rfl fun a hS => ?_
                          refine wn hS rfl rfl rfl rfl rfl rfl fun a hS => ?_
                          refine wn hS rfl rfl rfl rfl rfl rfl fun a hS => ?_
                          refine wn hS rfl rfl rfl rfl rfl rfl fun a hS => ?_
                          refine wl rfl (ky (v := .bool true) hS (y_pickt hS rfl rfl rfl) rfl rfl fun a hS => ?_)
                          refine wl rfl (ky (v := .bool true) hS (y_move hS rfl) rfl rfl fun a hS => ?_)
                          refine wn hS rfl rfl rfl rfl rfl rfl fun a hS => ?_
                          refine wn hS rfl rfl rfl rfl rfl rfl fun a hS => ?_
                          refine wn hS rfl rfl rfl rfl rfl rfl fun a hS => ?_
                          refine wl rfl (ky (v := .bool true) hS (y_pickt hS rfl rfl rfl) rfl rfl fun a hS => ?_)
                          refine wl rfl (ky (v := .bool true) hS (y_move hS rfl) rfl rfl fun a hS => ?_)
                          refine wn hS rfl rfl rfl rfl rfl rfl fun a hS => ?_
                          refine wn hS rfl rfl rfl rfl rfl rfl fun a hS => ?_
                          refine wn hS rfl rfl rfl rfl rfl rfl fun a hS => ?_
                          refine wl rfl (ky (v := .bool true) hS (y_pickt hS rfl rfl rfl) rfl rfl fun a hS => ?_)
                          refine wpList_nil ?_
                          try simp only [Exit.then, Exit.inBlock, ↓reduceIte, Nat.reduceEqDiff]
                          refine hK1889 _ _ ?_
                          refine c_t hS rfl rfl ?_
                          refine wp_seq_k fun K1892 hK1892 => ?_
                          refine r_list ?_
                          refine wl rfl (ky (v := .bool false) hS (y_assign hS rfl) rfl rfl fun a hS => ?_)
                          refine wpList_nil ?_
                          try simp only [Exit.then, Exit.inBlock, ↓reduceIte, Nat.reduceEqDiff]
                          refine hK1892 _ _ ?_
                          refine wp_ret ?_
                          injection hM with hM
                          subst hM
                          have hr := hf1 _ rfl
                          subst hr
                          replace hMo1 := el_out hMo1
                          have hM := hMo1
                          injection hM with hM
                          subst hM
                          try simp only [Exit.then, Exit.inBlock, ↓reduceIte, Nat.reduceEqDiff]
                          refine ret_ok hS Tryd.results3 (res_tmp hS rfl res_nil) ?_
                          exact rfl
                        · replace hM := cf hb17613 hM
                          refine wg hS rfl rfl rfl hb17613 (ky (v := .agg #[.int .i64 u17560.2.1.Kind, .string u17560.2.1.Text]) hS (y_load hS rfl ty26 7 rfl id (us := [.int .i64 u17560.2.1.Kind, .string u17560.2.1.Text]) rfl rfl (fun h => by cases h)) rfl rfl fun a hS => ?_)
                          refine wg hS rfl rfl rfl hb17613 (ky (v := .agg #[.int .i64 u17569.2.1.Kind, .string u17569.2.1.Text]) hS (y_load hS rfl ty26 5 rfl id (us := [.int .i64 u17569.2.1.Kind, .string u17569.2.1.Text]) rfl rfl (fun h => by cases h)) rfl rfl fun a hS => ?_)
                          refine wg hS rfl rfl rfl hb17613 (ky (v := .bool (!((u17560.2.1.Kind : Int) == u17569.2.1.Kind && u17560.2.1.Text.toList == u17569.2.1.Text.toList))) hS (eq26n hS rfl rfl) rfl rfl fun a hS => ?_)
                          refine wl rfl (ky (v := .bool (!((u17560.2.1.Kind : Int) == u17569.2.1.Kind && u17560.2.1.Text.toList == u17569.2.1.Text.toList))) hS (y_pickf hS rfl hb17613 rfl) rfl rfl fun a hS => ?_)
                          refine wl rfl (ky (v := .bool (!((u17560.2.1.Kind : Int) == u17569.2.1.Kind && u17560.2.1.Text.toList == u17569.2.1.Text.toList))) hS (y_move hS rfl) rfl rfl fun a hS => ?_)
                          rcases bool2 (!((u17560.2.1.Kind : Int) == u17569.2.1.Kind && u17560.2.1.Text.toList == u17569.2.1.Text.toList)) with hb17614 | hb17614
                          · replace hM := ct hb17614 hM
                            refine wn hS rfl rfl rfl hb17614 rfl rfl fun a hS => ?_
                            refine wn hS rfl rfl rfl hb17614 rfl rfl fun a hS => ?_
                            refine wn hS rfl rfl rfl hb17614 rfl rfl fun a hS => ?_
                            refine wl rfl (ky (v := .bool true) hS (y_pickt hS rfl hb17614 rfl) rfl rfl fun a hS => ?_)
                            refine wl rfl (ky (v := .bool true) hS (y_move hS rfl) rfl rfl fun a hS => ?_)
                            refine wn hS rfl rfl rfl rfl rfl rfl fun a hS => ?_
                            refine wn hS rfl rfl rfl rfl rfl rfl fun a hS => ?_
                            refine wn hS rfl rfl rfl rfl rfl rfl fun a hS => ?_
                            refine wn hS rfl rfl rfl rfl rfl rfl fun a hS => ?_
                            refine wl rfl (ky (v := .bool true) hS (y_pickt hS rfl rfl rfl) rfl rfl fun a hS => ?_)
                            refine wl rfl (ky (v := .bool true) hS (y_move hS rfl) rfl rfl fun a hS => ?_)
                            refine wn hS rfl rfl rfl rfl rfl rfl fun a hS => ?_
                            refine wn hS rfl rfl rfl rfl rfl rfl fun a hS => ?_
                            refine wn hS rfl rfl rfl rfl rfl rfl fun a hS => ?_
                            refine wl rfl (ky (v := .bool true) hS (y_pickt hS rfl rfl rfl) rfl rfl fun a hS => ?_)
                            refine wl rfl (ky (v := .bool true) hS (y_move hS rfl) rfl rfl fun a hS => ?_)
                            refine wn hS rfl rfl rfl rfl rfl rfl fun a hS => ?_
                            refine wn hS rfl rfl rfl rfl rfl rfl fun a hS => ?_
                            refine wn hS rfl rfl rfl rfl rfl rfl fun a hS => ?_
                            refine wl rfl (ky (v := .bool true) hS (y_pickt hS rfl rfl rfl) rfl rfl fun a hS => ?_)
                            refine wpList_nil ?_
                            try simp only [Exit.then, Exit.inBlock, ↓reduceIte, Nat.reduceEqDiff]
                            refine hK1889 _ _ ?_
                            refine c_t hS rfl rfl ?_
                            refine wp_seq_k fun K1893 hK1893 => ?_
                            refine r_list ?_
                            refine wl rfl (ky (v := .bool false) hS (y_assign hS rfl) rfl rfl fun a hS => ?_)
                            refine wpList_nil ?_
                            try simp only [Exit.then, Exit.inBlock, ↓reduceIte, Nat.reduceEqDiff]
                            refine hK1893 _ _ ?_
                            refine wp_ret ?_
                            injection hM with hM
                            subst hM
                            have hr := hf1 _ rfl
                            subst hr
                            replace hMo1 := el_out hMo1
                            have hM := hMo1
                            injection hM with hM
                            subst hM
                            try simp only [Exit.then, Exit.inBlock, ↓reduceIte, Nat.reduceEqDiff]
                            refine ret_ok hS Tryd.results3 (res_tmp hS rfl res_nil) ?_
                            exact rfl
                          · replace hM := cf hb17614 hM
                            refine wg hS rfl rfl rfl hb17614 (ky (v := .bool u17560.2.2) hS (y_move hS rfl) rfl rfl fun a hS => ?_)
                            refine wg hS rfl rfl rfl hb17614 (ky (v := .bool u17569.2.2) hS (y_move hS rfl) rfl rfl fun a hS => ?_)
                            refine wg hS rfl rfl rfl hb17614 (ky (v := .bool (u17560.2.2 != u17569.2.2)) hS (y_bool hS rfl rfl Tryd.underlying4 (.inr ⟨rfl, rfl⟩)) rfl rfl fun a hS => ?_)
                            refine wl rfl (ky (v := .bool (u17560.2.2 != u17569.2.2)) hS (y_pickf hS rfl hb17614 rfl) rfl rfl fun a hS => ?_)
                            refine wl rfl (ky (v := .bool (u17560.2.2 != u17569.2.2)) hS (y_move hS rfl) rfl rfl fun a hS => ?_)
                            rcases bool2 (u17560.2.2 != u17569.2.2) with hb17615 | hb17615
                            · replace hM := ct hb17615 hM
                              refine wn hS rfl rfl rfl hb17615 rfl rfl fun a hS => ?_
                              refine wn hS rfl rfl rfl hb17615 rfl rfl fun a hS => ?_
                              refine wn hS rfl rfl rfl hb17615 rfl rfl fun a hS => ?_
                              refine wn hS rfl rfl rfl hb17615 rfl rfl fun a hS => ?_
                              refine wl rfl (ky (v := .bool true) hS (y_pickt hS rfl hb17615 rfl) rfl rfl fun a hS => ?_)
                              refine wl rfl (ky (v := .bool true) hS (y_move hS rfl) rfl rfl fun a hS => ?_)
                              refine wn hS rfl rfl rfl rfl rfl rfl fun a hS => ?_
                              refine wn hS rfl rfl rfl rfl rfl rfl fun a hS => ?_
                              refine wn hS rfl rfl rfl rfl rfl rfl fun a hS => ?_
                              refine wl rfl (ky (v := .bool true) hS (y_pickt hS rfl rfl rfl) rfl rfl fun a hS => ?_)
                              refine wl rfl (ky (v := .bool true) hS (y_move hS rfl) rfl rfl fun a hS => ?_)
                              refine wn hS rfl rfl rfl rfl rfl rfl fun a hS => ?_
                              refine wn hS rfl rfl rfl rfl rfl rfl fun a hS => ?_
                              refine wn hS rfl rfl rfl rfl rfl rfl fun a hS => ?_
                              refine wl rfl (ky (v := .bool true) hS (y_pickt hS rfl rfl rfl) rfl rfl fun a hS => ?_)
                              refine wpList_nil ?_
                              try simp only [Exit.then, Exit.inBlock, ↓reduceIte, Nat.reduceEqDiff]
                              refine hK1889 _ _ ?_
                              refine c_t hS rfl rfl ?_
                              refine wp_seq_k fun K1894 hK1894 => ?_
                              refine r_list ?_
                              refine wl rfl (ky (v := .bool false) hS (y_assign hS rfl) rfl rfl fun a hS => ?_)
                              refine wpList_nil ?_
                              try simp only [Exit.then, Exit.inBlock, ↓reduceIte, Nat.reduceEqDiff]
                              refine hK1894 _ _ ?_
                              refine wp_ret ?_
                              injection hM with hM
                              subst hM
                              have hr := hf1 _ rfl
                              subst hr
                              replace hMo1 := el_out hMo1
                              have hM := hMo1
                              injection hM with hM
                              subst hM
                              try simp only [Exit.then, Exit.inBlock, ↓reduceIte, Nat.reduceEqDiff]
                              refine ret_ok hS Tryd.results3 (res_tmp hS rfl res_nil) ?_
                              exact rfl
                            · replace hM := cf hb17615 hM
                              refine wg hS rfl rfl rfl hb17615 (ky (v := .agg #[vz17578_2]) hS (y_load hS rfl ty24 3 rfl id (us := [vz17578_2]) rfl rfl (fun h => by cases h)) rfl rfl fun a hS => ?_)
                              refine wg hS rfl rfl rfl hb17615 (ky (v := .agg #[vz17587_2]) hS (y_load hS rfl ty24 1 rfl id (us := [vz17587_2]) rfl rfl (fun h => by cases h)) rfl rfl fun a hS => ?_)
                              have hL := hS
                              replace hL := hL.freeze (R := R_KeyD) 4 rfl 1 rfl
                              obtain ⟨u17616, hu17616, hM⟩ := bd hM
                              refine wg hS rfl rfl rfl hb17615 (k_call hS ci19 rfl rfl (ref32_Same_c _ _ hL.dlt (DequeD.mk u17577.1.Keys) (DequeD.mk u17586.1.Keys) _ _ (hL.get 0 rfl) (hL.get 1 rfl) _ hu17616) fun _ w hR a hk hA => ?_)
                              have he := Eq.symm hR
                              subst he
                              have hS := hA [] (fun r hr => by cases hr) List.Pairwise.nil
                              refine wg hS rfl rfl rfl hb17615 (ky (v := .bool (!(u17616))) hS (y_not hS rfl) rfl rfl fun a hS => ?_)
                              refine wl rfl (ky (v := .bool (!(u17616))) hS (y_pickf hS rfl hb17615 rfl) rfl rfl fun a hS => ?_)
                              refine wl rfl (ky (v := .bool (!(u17616))) hS (y_move hS rfl) rfl rfl fun a hS => ?_)
                              rcases bool2 (!(u17616)) with hb17618 | hb17618
                              · replace hM := ct hb17618 hM
                                refine wn hS rfl rfl rfl hb17618 rfl rfl fun a hS => ?_
                                refine wn hS rfl rfl rfl hb17618 rfl rfl fun a hS => ?_
                                refine wn hS rfl rfl rfl hb17618 rfl rfl fun a hS => ?_
                                refine wl rfl (ky (v := .bool true) hS (y_pickt hS rfl hb17618 rfl) rfl rfl fun a hS => ?_)
                                refine wl rfl (ky (v := .bool true) hS (y_move hS rfl) rfl rfl fun a hS => ?_)
                                refine wn hS rfl rfl rfl rfl rfl rfl fun a hS => ?_
                                refine wn hS rfl rfl rfl rfl rfl rfl fun a hS => ?_
                                refine wn hS rfl rfl rfl rfl rfl rfl fun a hS => ?_
                                refine wl rfl (ky (v := .bool true) hS (y_pickt hS rfl rfl rfl) rfl rfl fun a hS => ?_)
                                refine wpList_nil ?_
                                try simp only [Exit.then, Exit.inBlock, ↓reduceIte, Nat.reduceEqDiff]
                                refine hK1889 _ _ ?_
                                refine c_t hS rfl rfl ?_
                                refine wp_seq_k fun K1895 hK1895 => ?_
                                refine r_list ?_
                                refine wl rfl (ky (v := .bool false) hS (y_assign hS rfl) rfl rfl fun a hS => ?_)
                                refine wpList_nil ?_
                                try simp only [Exit.then, Exit.inBlock, ↓reduceIte, Nat.reduceEqDiff]
                                refine hK1895 _ _ ?_
                                refine wp_ret ?_
                                injection hM with hM
                                subst hM
                                have hr := hf1 _ rfl
                                subst hr
                                replace hMo1 := el_out hMo1
                                have hM := hMo1
                                injection hM with hM
                                subst hM
                                try simp only [Exit.then, Exit.inBlock, ↓reduceIte, Nat.reduceEqDiff]
                                refine ret_ok hS Tryd.results3 (res_tmp hS rfl res_nil) ?_
                                exact rfl
                              · replace hM := cf hb17618 hM
                                refine wg hS rfl rfl rfl hb17618 (ky (v := .agg #[.int .i64 u17577.2.1.Kind, .string u17577.2.1.Text]) hS (y_load hS rfl ty26 2 rfl id (us := [.int .i64 u17577.2.1.Kind, .string u17577.2.1.Text]) rfl rfl (fun h => by cases h)) rfl rfl fun a hS => ?_)
                                refine wg hS rfl rfl rfl hb17618 (ky (v := .agg #[.int .i64 u17586.2.1.Kind, .string u17586.2.1.Text]) hS (y_load hS rfl ty26 0 rfl id (us := [.int .i64 u17586.2.1.Kind, .string u17586.2.1.Text]) rfl rfl (fun h => by cases h)) rfl rfl fun a hS => ?_)
                                refine wg hS rfl rfl rfl hb17618 (ky (v := .bool (!((u17577.2.1.Kind : Int) == u17586.2.1.Kind && u17577.2.1.Text.toList == u17586.2.1.Text.toList))) hS (eq26n hS rfl rfl) rfl rfl fun a hS => ?_)
                                refine wl rfl (ky (v := .bool (!((u17577.2.1.Kind : Int) == u17586.2.1.Kind && u17577.2.1.Text.toList == u17586.2.1.Text.toList))) hS (y_pickf hS rfl hb17618 rfl) rfl rfl fun a hS => ?_)
                                refine wl rfl (ky (v := .bool (!((u17577.2.1.Kind : Int) == u17586.2.1.Kind && u17577.2.1.Text.toList == u17586.2.1.Text.toList))) hS (y_move hS rfl) rfl rfl fun a hS => ?_)
                                rcases bool2 (!((u17577.2.1.Kind : Int) == u17586.2.1.Kind && u17577.2.1.Text.toList == u17586.2.1.Text.toList)) with hb17619 | hb17619
                                · replace hM := ct hb17619 hM
                                  refine wn hS rfl rfl rfl hb17619 rfl rfl fun a hS => ?_
                                  refine wn hS rfl rfl rfl hb17619 rfl rfl fun a hS => ?_
                                  refine wn hS rfl rfl rfl hb17619 rfl rfl fun a hS => ?_
                                  refine wl rfl (ky (v := .bool true) hS (y_pickt hS rfl hb17619 rfl) rfl rfl fun a hS => ?_)
                                  refine wpList_nil ?_
                                  try simp only [Exit.then, Exit.inBlock, ↓reduceIte, Nat.reduceEqDiff]
                                  refine hK1889 _ _ ?_
                                  refine c_t hS rfl rfl ?_
                                  refine wp_seq_k fun K1896 hK1896 => ?_
                                  refine r_list ?_
                                  refine wl rfl (ky (v := .bool false) hS (y_assign hS rfl) rfl rfl fun a hS => ?_)
                                  refine wpList_nil ?_
                                  try simp only [Exit.then, Exit.inBlock, ↓reduceIte, Nat.reduceEqDiff]
                                  refine hK1896 _ _ ?_
                                  refine wp_ret ?_
                                  injection hM with hM
                                  subst hM
                                  have hr := hf1 _ rfl
                                  subst hr
                                  replace hMo1 := el_out hMo1
                                  have hM := hMo1
                                  injection hM with hM
                                  subst hM
                                  try simp only [Exit.then, Exit.inBlock, ↓reduceIte, Nat.reduceEqDiff]
                                  refine ret_ok hS Tryd.results3 (res_tmp hS rfl res_nil) ?_
                                  exact rfl
                                · replace hM := cf hb17619 hM
                                  refine wg hS rfl rfl rfl hb17619 (ky (v := .bool u17577.2.2) hS (y_move hS rfl) rfl rfl fun a hS => ?_)
                                  refine wg hS rfl rfl rfl hb17619 (ky (v := .bool u17586.2.2) hS (y_move hS rfl) rfl rfl fun a hS => ?_)
                                  refine wg hS rfl rfl rfl hb17619 (ky (v := .bool (u17577.2.2 != u17586.2.2)) hS (y_bool hS rfl rfl Tryd.underlying4 (.inr ⟨rfl, rfl⟩)) rfl rfl fun a hS => ?_)
                                  refine wl rfl (ky (v := .bool (u17577.2.2 != u17586.2.2)) hS (y_pickf hS rfl hb17619 rfl) rfl rfl fun a hS => ?_)
                                  refine wpList_nil ?_
                                  try simp only [Exit.then, Exit.inBlock, ↓reduceIte, Nat.reduceEqDiff]
                                  refine hK1889 _ _ ?_
                                  rcases bool2 (u17577.2.2 != u17586.2.2) with hb17620 | hb17620
                                  · replace hM := ct hb17620 hM
                                    refine c_t hS rfl hb17620 ?_
                                    refine wp_seq_k fun K1897 hK1897 => ?_
                                    refine r_list ?_
                                    refine wl rfl (ky (v := .bool false) hS (y_assign hS rfl) rfl rfl fun a hS => ?_)
                                    refine wpList_nil ?_
                                    try simp only [Exit.then, Exit.inBlock, ↓reduceIte, Nat.reduceEqDiff]
                                    refine hK1897 _ _ ?_
                                    refine wp_ret ?_
                                    injection hM with hM
                                    subst hM
                                    have hr := hf1 _ rfl
                                    subst hr
                                    replace hMo1 := el_out hMo1
                                    have hM := hMo1
                                    injection hM with hM
                                    subst hM
                                    try simp only [Exit.then, Exit.inBlock, ↓reduceIte, Nat.reduceEqDiff]
                                    refine ret_ok hS Tryd.results3 (res_tmp hS rfl res_nil) ?_
                                    exact rfl
                                  · replace hM := cf hb17620 hM
                                    refine c_f hS rfl hb17620 ?_
                                    refine wp_skip ?_
                                    try simp only [Exit.then, Exit.inBlock, ↓reduceIte, Nat.reduceEqDiff]
                                    refine hK1874 _ _ ?_
                                    refine r_list ?_
                                    refine wl rfl (ky (v := .int .i64 (IntKind.i64.wrap (g17297 + 1))) hS (y_int hS rfl rfl rfl) rfl rfl fun a hS => ?_)
                                    refine wl rfl (ky (v := .int .i64 (IntKind.i64.wrap (g17297 + 1))) hS (y_move hS rfl) rfl rfl fun a hS => ?_)
                                    refine wpList_nil ?_
                                    try simp only [Exit.then, Exit.inBlock, ↓reduceIte, Nat.reduceEqDiff]
                                    exact ⟨(g17293, IntKind.i64.wrap (g17297 + 1)), (Option.some.inj hM).symm, g17293, (IntKind.i64.wrap (g17297 + 1)), v17294, cl17295, rfl, (hS.meet [17, 18, 19] (by decide) ⟨rfl, rfl, rfl, rfl, rfl, rfl, rfl, trivial⟩ ⟨rfl, rfl, rfl, trivial⟩ ⟨⟨9, rfl⟩, ⟨10, rfl⟩, ⟨11, rfl⟩, ⟨12, rfl⟩, trivial⟩)⟩
            · replace hM := cf hb17462 hM
              refine c_f hS rfl hb17462 ?_
              refine wp_exit ?_
              try simp only [Exit.then, Exit.inBlock, ↓reduceIte, Nat.reduceEqDiff]
              injection hM with hM
              subst hM
              have hr := hf1 _ rfl
              subst hr
              replace hMo1 := el_go hMo1
              have hM : law32_DequeActs_j7 l_1 k_2 workers_ near7768 = some y := hMo1
              exact ⟨(hS.meet [1, 2] (by decide) ⟨rfl, rfl, rfl, rfl, trivial⟩ ⟨rfl, rfl, trivial⟩ ⟨⟨0, rfl⟩, ⟨2, rfl⟩, ⟨3, rfl⟩, trivial⟩), hM⟩
          · rintro a w ⟨hS, hM⟩
            unfold law32_DequeActs_j7 at hM
            refine seq_j (J := fun a w => St W0 No T 261 [] [] [LvF] a w ∧ law32_DequeActs_j1 = some y) ?_ ?_
            · skip
              refine wp_seq_k fun K1248 hK1248 => ?_
              refine draws [] hS mixed rfl (fun c a d v w h => by cases d <;> exact h) fun w hQ hS => ?_
              refine dy 0 (v := v2) rfl (by kernel_rfl) (by kernel_rfl) (by kernel_rfl) rfl hQ hS (y_move hS rfl) rfl rfl rfl fun a hS => ?_
              refine dy 1 (v := .pointer (some ⟨b7712, 0 + 0, none⟩)) rfl (by kernel_rfl) (by kernel_rfl) (by kernel_rfl) rfl hQ hS (y_fld hS rfl fl24_0) rfl rfl rfl fun a hS => ?_
              refine dy (l := []) 2 (v := v7769) rfl (by kernel_rfl) (by kernel_rfl) (by kernel_rfl) (by kernel_rfl) hQ hS (y_load hS rfl ty22 1 rfl eo_nil (us := [v7769]) rfl rfl (fun _ => rfl)) rfl rfl rfl fun a hS => ?_
              refine dy 3 (v := .pointer (some ⟨b7712, 0 + 0, none⟩)) rfl (by kernel_rfl) (by kernel_rfl) (by kernel_rfl) rfl hQ hS (y_fld hS rfl fl24_0) rfl rfl rfl fun a hS => ?_
              refine dy (l := []) 4 (v := v7769) rfl (by kernel_rfl) (by kernel_rfl) (by kernel_rfl) (by kernel_rfl) hQ hS (y_load hS rfl ty22 1 rfl eo_nil (us := [v7769]) rfl rfl (fun _ => rfl)) rfl rfl rfl fun a hS => ?_
              refine dy 5 (v := .pointer (some ⟨b7712, 0 + 0, none⟩)) rfl (by kernel_rfl) (by kernel_rfl) (by kernel_rfl) rfl hQ hS (y_fld hS rfl fl24_0) rfl rfl rfl fun a hS => ?_
              refine dy (l := []) 6 (v := v7769) rfl (by kernel_rfl) (by kernel_rfl) (by kernel_rfl) (by kernel_rfl) hQ hS (y_load hS rfl ty22 1 rfl eo_nil (us := [v7769]) rfl rfl (fun _ => rfl)) rfl rfl rfl fun a hS => ?_
              refine dy 7 (v := .int .i64 (near7768.length : Int)) rfl (by kernel_rfl) (by kernel_rfl) (by kernel_rfl) rfl hQ hS (y_len (R := R_KeyD) (xs := near7768) hS sl22 rfl 1 rfl) rfl rfl rfl fun a hS => ?_
              refine dy 8 (v := .pointer (some ⟨b7712, 0 + 0, none⟩)) rfl (by kernel_rfl) (by kernel_rfl) (by kernel_rfl) rfl hQ hS (y_fld hS rfl fl24_0) rfl rfl rfl fun a hS => ?_
              refine dy (l := []) 9 (v := v7769) rfl (by kernel_rfl) (by kernel_rfl) (by kernel_rfl) (by kernel_rfl) hQ hS (y_load hS rfl ty22 1 rfl eo_nil (us := [v7769]) rfl rfl (fun _ => rfl)) rfl rfl rfl fun a hS => ?_
              refine dy 10 (v := .int .i64 (near7768.length : Int)) rfl (by kernel_rfl) (by kernel_rfl) (by kernel_rfl) rfl hQ hS (y_len (R := R_KeyD) (xs := near7768) hS sl22 rfl 1 rfl) rfl rfl rfl fun a hS => ?_
              obtain ⟨l11595, hl11595, hM⟩ := bd hM
              obtain ⟨v11596, hy11597, hS⟩ := d_full (R := R_KeyD) hS sl22 ty26 1 rfl hl11595
              refine dy 11 (v := v11596) rfl (by kernel_rfl) (by kernel_rfl) (by kernel_rfl) rfl hQ hS (hy11597 (k1 := .i64) rfl (.inr ⟨rfl, rfl⟩) rfl rfl) rfl rfl rfl fun a hS => ?_
              refine dy (l := []) 12 (v := .agg #[.int .i64 k_2.Kind, .string k_2.Text]) rfl (by kernel_rfl) (by kernel_rfl) (by kernel_rfl) (by kernel_rfl) hQ hS (y_load hS rfl ty26 0 rfl eo_nil (us := [.int .i64 k_2.Kind, .string k_2.Text]) rfl rfl (fun h => by cases h)) rfl rfl rfl fun a hS => ?_
              refine dy 17 (v := .int .i64 0) rfl (by kernel_rfl) (by kernel_rfl) (by kernel_rfl) rfl hQ hS (y_move hS rfl) rfl rfl rfl fun a hS => ?_
              refine wpE_one (i := 13) rfl (by kernel_rfl) rfl (k_bslice (ps := [(0, .tmp 201)]) hS el22 ze26 (zl := [.int .i64 0, .string (ByteArray.mk #[])]) (by kernel_rfl) rfl (us := [[.int .i64 k_2.Kind, .string k_2.Text]]) ⟨rfl, trivial⟩ (ws := [.int .i64 k_2.Kind, .string k_2.Text]) rfl rfl rfl rfl fun b11598 a w hk hS => ⟨stN (hk), ?_⟩)
              replace hS := hS.lit (R := R_KeyD) (us := [.int .i64 k_2.Kind, .string k_2.Text]) (xs := [k_2]) 0 rfl (by decide) (RowsOk.one_ (R := R_KeyD) (x := k_2) rfl) rfl rfl
              replace hS := hS.freeze (R := R_KeyD) 0 rfl 0 rfl
              obtain ⟨hg11600, hM⟩ := gd_some hM
              refine wpE_one (i := 14) rfl (by kernel_rfl) rfl (k_appclip (R := R_KeyD) (xs := l11595) (ys := [k_2]) hS el22 (by decide) (by decide) rfl rfl 2 rfl 3 rfl 0 rfl rfl hg11600 rfl fun v11601 cl11602 a w hk hS => ⟨stN (hk), ?_⟩)
              refine wpE_one (i := 15) rfl (by kernel_rfl) rfl (k_bslice (ps := [(0, .tmp 189), (1, .tmp 191), (2, .tmp 203)]) hS el38 ze22 (zl := [.slice none 0 0, .slice none 0 0, .slice none 0 0]) (by kernel_rfl) rfl (us := [[v2], [v7769], [v11601]]) ⟨(cells1 (SlR.one ((hS.get 5 rfl) : SlR R_KeyD _ _ _ _))), ⟨(cells1 (SlR.one ((hS.get 6 rfl) : SlR R_KeyD _ _ _ _))), ⟨(cells1 (own_one (hS.own _ (List.mem_of_getElem? (i := 0) rfl)).1)), trivial⟩⟩⟩ (ws := [v2, v7769, v11601]) rfl rfl rfl rfl fun b11604 a w hk hS => ⟨stN (hk), ?_⟩)
              replace hS := hS.freeze (R := R_KeyD) 1 rfl 0 rfl
              replace hS := hS.lit (R := (Rep.slice R_KeyD)) (us := [v2, v7769, v11601]) (xs := [l_1, near7768, (l11595 ++ ([k_2]))]) 0 rfl (by decide) ((RowsOk.one_ (R := (Rep.slice R_KeyD)) (x := l_1) (⟨_, rfl, (hS.get 6 rfl)⟩)).append ((RowsOk.one_ (R := (Rep.slice R_KeyD)) (x := near7768) (⟨_, rfl, (hS.get 7 rfl)⟩)).append (RowsOk.one_ (R := (Rep.slice R_KeyD)) (x := (l11595 ++ ([k_2]))) (⟨_, rfl, (hS.get 0 rfl)⟩)))) rfl rfl
              refine dy 16 (v := .int .i64 (([l_1, near7768, (l11595 ++ ([k_2]))]).length : Int)) rfl (by kernel_rfl) (by kernel_rfl) (by kernel_rfl) rfl hQ hS (y_leno (R := (Rep.slice R_KeyD)) (xs := [l_1, near7768, (l11595 ++ ([k_2]))]) hS sl38 rfl 0 rfl 0 rfl) rfl rfl rfl fun a hS => ?_
              refine wpE_done (by kernel_rfl) ?_ _
              try simp only [Exit.then, Exit.inBlock, ↓reduceIte, Nat.reduceEqDiff]
              refine hK1248 _ _ ?_
              refine wp_block ?_
              obtain ⟨r1, hl1, hMo1⟩ := bd hM
              refine wp_lp (fun s : (List (List KeyD)) × Int => law32_DequeActs_l6 l_1 k_2 workers_ near7768 l11595 s.1 s.2) (fun s a w => ∃ (g13284 : (List (List KeyD))) (g13288 : Int) (v13285 : Value) (cl13286 : (List Value)), (g13284, g13288) = s ∧ St W0 No T 261 [(4, .int .i64 workers_), (204, v13285), (205, .int .i64 (([l_1, near7768, (l11595 ++ ([k_2]))]).length : Int)), (206, .int .i64 g13288)] [.own v13285 22 (Rep.slice R_KeyD).size cl13286] [RowsF (Rep.slice R_KeyD) cl13286 g13284, LvF] a w) hl1 ⟨([l_1, near7768, (l11595 ++ ([k_2]))]), 0, (.slice (some ⟨b11604, 0, none⟩) 3 3), ([v2, v7769, v11601]), rfl, (hS.meet [0] (by decide) ⟨rfl, rfl, rfl, rfl, trivial⟩ ⟨rfl, trivial⟩ ⟨⟨0, rfl⟩, ⟨9, rfl⟩, trivial⟩)⟩ ?_
              rintro s a w f1 ⟨g13284, g13288, v13285, cl13286, rfl, hS⟩ hM hf1
              have hM : law32_DequeActs_l6 l_1 k_2 workers_ near7768 l11595 g13284 g13288 = some f1 := hM
              unfold law32_DequeActs_l6 at hM
              refine wp_seq_k fun K1597 hK1597 => ?_
              refine r_list ?_
              refine wl rfl (ky (v := .bool (decide ((g13288 : Int) < (([l_1, near7768, (l11595 ++ ([k_2]))]).length : Int)))) hS (y_int hS rfl rfl rfl) rfl rfl fun a hS => ?_)
              refine wpList_nil ?_
              try simp only [Exit.then, Exit.inBlock, ↓reduceIte, Nat.reduceEqDiff]
              refine hK1597 _ _ ?_
              refine wp_seq_k fun K1598 hK1598 => ?_
              rcases bool2 (decide ((g13288 : Int) < (([l_1, near7768, (l11595 ++ ([k_2]))]).length : Int))) with hb14963 | hb14963
              · replace hM := ct hb14963 hM
                refine c_t hS rfl hb14963 ?_
                refine wp_skip ?_
                try simp only [Exit.then, Exit.inBlock, ↓reduceIte, Nat.reduceEqDiff]
                refine hK1598 _ _ ?_
                refine seq_j (J := fun a w => St W0 No T 261 [(4, .int .i64 workers_), (204, v13285), (205, .int .i64 (([l_1, near7768, (l11595 ++ ([k_2]))]).length : Int)), (206, .int .i64 g13288)] [.own v13285 22 (Rep.slice R_KeyD).size cl13286] [RowsF (Rep.slice R_KeyD) cl13286 g13284, LvF] a w ∧ law32_DequeActs_j2 g13284 g13288 = some f1) ?_ ?_
                · skip
                  refine wp_block ?_
                  refine wp_seq_k fun K1685 hK1685 => ?_
                  refine r_list ?_
                  obtain ⟨e15798, he15798, hM⟩ := bd hM
                  refine wl rfl (k_indexo (R := (Rep.slice R_KeyD)) hS sl38 ty22 rfl rfl 0 rfl 0 rfl he15798 rfl fun b15800 o15801 p15806 cs15803 hr15802 hO15804 hC15805 a hS => ?_)
                  obtain ⟨v15799, rfl, hv15799⟩ := hr15802
                  replace hS := hS.fact (SlF R_KeyD v15799 e15798) hv15799
                  refine wl rfl (ky (v := v15799) hS (y_loado (k := 0) hS ty22 0 rfl hO15804 hC15805 rfl id (us := [v15799]) rfl rfl (fun _ => rfl)) rfl rfl fun a hS => ?_)
                  refine wl rfl (ky (v := v15799) hS (y_assign hS rfl) rfl rfl fun a hS => ?_)
                  refine wpList_nil ?_
                  try simp only [Exit.then, Exit.inBlock, ↓reduceIte, Nat.reduceEqDiff]
                  refine hK1685 _ _ ?_
                  refine wp_seq_k fun K1686 hK1686 => ?_
                  refine r_list ?_
                  refine wl rfl (ky (v := .int .i64 workers_) hS (y_move hS rfl) rfl rfl fun a hS => ?_)
                  refine wl rfl (ky (v := .int .i64 workers_) hS (y_move hS rfl) rfl rfl fun a hS => ?_)
                  obtain ⟨u15807, hu15807, hM⟩ := bd hM
                  refine wl rfl (k_call hS ci13 rfl rfl (mill_Mod_c _ _ hS.dlt workers_ 9 _ hu15807) fun _ w hR a hk hA => ?_)
                  have he := Eq.symm hR
                  subst he
                  have hS := hA [] (fun r hr => by cases hr) List.Pairwise.nil
                  refine wl rfl (ky (v := .int .i64 (IntKind.i64.wrap (u15807 - 1))) hS (y_int hS rfl rfl rfl) rfl rfl fun a hS => ?_)
                  refine wl rfl (k_bslice (ps := [(0, .tmp 210), (1, .tmp 213), (2, .const (.int .i64 1))]) hS el39 ze3 (zl := [.int .i64 0, .int .i64 0, .int .i64 0]) (by kernel_rfl) rfl (us := [[.int .i64 workers_], [.int .i64 (IntKind.i64.wrap (u15807 - 1))], [.int .i64 1]]) ⟨rfl, ⟨rfl, ⟨rfl, trivial⟩⟩⟩ (ws := [.int .i64 workers_, .int .i64 (IntKind.i64.wrap (u15807 - 1)), .int .i64 1]) rfl rfl rfl rfl fun b15809 a w hk hS => ?_)
                  replace hS := hS.lit (R := (Rep.int .i64)) (us := [.int .i64 workers_, .int .i64 (IntKind.i64.wrap (u15807 - 1)), .int .i64 1]) (xs := [workers_, IntKind.i64.wrap (u15807 - 1), 1]) 0 rfl (by decide) ((RowsOk.one_ (R := (Rep.int .i64)) (x := workers_) rfl).append ((RowsOk.one_ (R := (Rep.int .i64)) (x := IntKind.i64.wrap (u15807 - 1)) rfl).append (RowsOk.one_ (R := (Rep.int .i64)) (x := 1) rfl))) rfl rfl
                  refine wl rfl (ky (v := .int .i64 (([workers_, IntKind.i64.wrap (u15807 - 1), 1]).length : Int)) hS (y_leno (R := (Rep.int .i64)) (xs := [workers_, IntKind.i64.wrap (u15807 - 1), 1]) hS sl39 rfl 0 rfl 0 rfl) rfl rfl fun a hS => ?_)
                  refine wl rfl (ky (v := .int .i64 0) hS (y_move hS rfl) rfl rfl fun a hS => ?_)
                  refine wpList_nil ?_
                  try simp only [Exit.then, Exit.inBlock, ↓reduceIte, Nat.reduceEqDiff]
                  refine hK1686 _ _ ?_
                  refine wp_block ?_
                  obtain ⟨r2, hl2, hMo2⟩ := bd hM
                  refine wp_lp (fun s : (List Int) × Int => law32_DequeActs_l5 workers_ e15798 u15807 s.1 s.2) (fun s a w => ∃ (g16221 : (List Int)) (g16225 : Int) (v16222 : Value) (cl16223 : (List Value)), (g16221, g16225) = s ∧ St W0 No T 261 [(4, .int .i64 workers_), (33, v15799), (204, v13285), (205, .int .i64 (([l_1, near7768, (l11595 ++ ([k_2]))]).length : Int)), (206, .int .i64 g13288), (214, v16222), (215, .int .i64 (([workers_, IntKind.i64.wrap (u15807 - 1), 1]).length : Int)), (216, .int .i64 g16225)] [.own v13285 22 (Rep.slice R_KeyD).size cl13286, .own v16222 3 (Rep.int .i64).size cl16223] [SlF R_KeyD v15799 e15798, RowsF (Rep.slice R_KeyD) cl13286 g13284, RowsF (Rep.int .i64) cl16223 g16221, LvF] a w) hl2 ⟨([workers_, IntKind.i64.wrap (u15807 - 1), 1]), 0, (.slice (some ⟨b15809, 0, none⟩) 3 3), ([.int .i64 workers_, .int .i64 (IntKind.i64.wrap (u15807 - 1)), .int .i64 1]), rfl, (hS.meet [1, 0] (by decide) ⟨rfl, rfl, rfl, rfl, rfl, rfl, rfl, rfl, trivial⟩ ⟨rfl, rfl, trivial⟩ ⟨⟨1, rfl⟩, ⟨2, rfl⟩, ⟨0, rfl⟩, ⟨3, rfl⟩, trivial⟩)⟩ ?_
                  rintro s a w f2 ⟨g16221, g16225, v16222, cl16223, rfl, hS⟩ hM hf2
                  have hM : law32_DequeActs_l5 workers_ e15798 u15807 g16221 g16225 = some f2 := hM
                  unfold law32_DequeActs_l5 at hM
                  refine wp_seq_k fun K1771 hK1771 => ?_
                  refine r_list ?_
                  refine wl rfl (ky (v := .bool (decide ((g16225 : Int) < (([workers_, IntKind.i64.wrap (u15807 - 1), 1]).length : Int)))) hS (y_int hS rfl rfl rfl) rfl rfl fun a hS => ?_)
                  refine wpList_nil ?_
                  try simp only [Exit.then, Exit.inBlock, ↓reduceIte, Nat.reduceEqDiff]
                  refine hK1771 _ _ ?_
                  refine wp_seq_k fun K1772 hK1772 => ?_
                  rcases bool2 (decide ((g16225 : Int) < (([workers_, IntKind.i64.wrap (u15807 - 1), 1]).length : Int))) with hb16632 | hb16632
                  · replace hM := ct hb16632 hM
                    refine c_t hS rfl hb16632 ?_
                    refine wp_skip ?_
                    try simp only [Exit.then, Exit.inBlock, ↓reduceIte, Nat.reduceEqDiff]
                    refine hK1772 _ _ ?_
                    refine seq_j (J := fun a w => St W0 No T 261 [(4, .int .i64 workers_), (33, v15799), (204, v13285), (205, .int .i64 (([l_1, near7768, (l11595 ++ ([k_2]))]).length : Int)), (206, .int .i64 g13288), (214, v16222), (215, .int .i64 (([workers_, IntKind.i64.wrap (u15807 - 1), 1]).length : Int)), (216, .int .i64 g16225)] [.own v13285 22 (Rep.slice R_KeyD).size cl13286, .own v16222 3 (Rep.int .i64).size cl16223] [SlF R_KeyD v15799 e15798, RowsF (Rep.slice R_KeyD) cl13286 g13284, RowsF (Rep.int .i64) cl16223 g16221, LvF] a w ∧ law32_DequeActs_j3 g16221 g16225 = some f2) ?_ ?_
                    · skip
                      refine wp_block ?_
                      refine wp_seq_k fun K1793 hK1793 => ?_
                      refine r_list ?_
                      obtain ⟨e16833, he16833, hM⟩ := bd hM
                      refine wl rfl (k_indexo (R := (Rep.int .i64)) hS sl39 ty3 rfl rfl 1 rfl 2 rfl he16833 rfl fun b16834 o16835 p16840 cs16837 hr16836 hO16838 hC16839 a hS => ?_)
                      obtain rfl := hr16836
                      refine wl rfl (ky (v := .int .i64 e16833) hS (y_loado (k := 0) hS ty3 1 rfl hO16838 hC16839 rfl id (us := [.int .i64 e16833]) rfl rfl (fun _ => rfl)) rfl rfl fun a hS => ?_)
                      refine wl rfl (ky (v := .int .i64 e16833) hS (y_assign hS rfl) rfl rfl fun a hS => ?_)
                      refine wpList_nil ?_
                      try simp only [Exit.then, Exit.inBlock, ↓reduceIte, Nat.reduceEqDiff]
                      refine hK1793 _ _ ?_
                      refine wp_seq_k fun K1794 hK1794 => ?_
                      refine r_list ?_
                      refine wl rfl (ky (v := v15799) hS (y_move hS rfl) rfl rfl fun a hS => ?_)
                      refine wl rfl (ky (v := .int .i64 e16833) hS (y_move hS rfl) rfl rfl fun a hS => ?_)
                      obtain ⟨u16841, hu16841, hM⟩ := bd hM
                      refine wl rfl (k_call hS ci24 rfl rfl (deque_Deal_c _ _ hS.dlt (hS.get 3 rfl) e15798 e16833 _ (hS.get 0 rfl) _ hu16841) fun _ w hR a hk hA => ?_)
                      obtain ⟨vz16842_2, clz16842_3, he, ⟨hOvz16842_2, hFvz16842_2, hRvz16842_2⟩⟩ := hR
                      replace he := he.symm
                      subst he
                      have hS := hA [.own vz16842_2 24 R_DequeD.size clz16842_3] (adds1 ⟨hOvz16842_2, by decide⟩ hFvz16842_2) (pw1 _)
                      replace hS := hS.fact (RowsF R_DequeD clz16842_3 u16841.1) (hRvz16842_2.keep (Kt.refl _ _) (dT_dT _))
                      refine wl rfl (ky (v := .tuple #[vz16842_2, .int .i64 u16841.2]) hS (y_move hS rfl) rfl rfl fun a hS => ?_)
                      refine wl rfl (ky (v := vz16842_2) hS (y_ex hS rfl rfl) rfl rfl fun a hS => ?_)
                      refine wl rfl (ky (v := .int .i64 u16841.2) hS (y_ex hS rfl rfl) rfl rfl fun a hS => ?_)
                      refine wl rfl (ky (v := vz16842_2) hS (y_assign hS rfl) rfl rfl fun a hS => ?_)
                      refine wl rfl (ky (v := .int .i64 u16841.2) hS (y_assign hS rfl) rfl rfl fun a hS => ?_)
                      refine wpList_nil ?_
                      try simp only [Exit.then, Exit.inBlock, ↓reduceIte, Nat.reduceEqDiff]
                      refine hK1794 _ _ ?_
                      refine wp_seq_k fun K1795 hK1795 => ?_
                      refine r_list ?_
                      refine wl rfl (ky (v := v15799) hS (y_move hS rfl) rfl rfl fun a hS => ?_)
                      refine wl rfl (ky (v := .int .i64 e16833) hS (y_move hS rfl) rfl rfl fun a hS => ?_)
                      obtain ⟨u16844, hu16844, hM⟩ := bd hM
                      refine wl rfl (k_call hS ci25 rfl rfl (ref32_Deal_c _ _ hS.dlt e15798 e16833 _ (hS.get 1 rfl) _ hu16844) fun _ w hR a hk hA => ?_)
                      obtain ⟨vz16845_2, clz16845_3, he, ⟨hOvz16845_2, hFvz16845_2, hRvz16845_2⟩⟩ := hR
                      replace he := he.symm
                      subst he
                      have hS := hA [.own vz16845_2 24 R_DequeD.size clz16845_3] (adds1 ⟨hOvz16845_2, by decide⟩ hFvz16845_2) (pw1 _)
                      replace hS := hS.fact (RowsF R_DequeD clz16845_3 u16844.1) (hRvz16845_2.keep (Kt.refl _ _) (dT_dT _))
                      refine wl rfl (ky (v := .tuple #[vz16845_2, .int .i64 u16844.2]) hS (y_move hS rfl) rfl rfl fun a hS => ?_)
                      refine wl rfl (ky (v := vz16845_2) hS (y_ex hS rfl rfl) rfl rfl fun a hS => ?_)
                      refine wl rfl (ky (v := .int .i64 u16844.2) hS (y_ex hS rfl rfl) rfl rfl fun a hS => ?_)
                      refine wl rfl (ky (v := vz16845_2) hS (y_assign hS rfl) rfl rfl fun a hS => ?_)
                      refine wl rfl (ky (v := .int .i64 u16844.2) hS (y_assign hS rfl) rfl rfl fun a hS => ?_)
                      refine wpList_nil ?_
                      try simp only [Exit.then, Exit.inBlock, ↓reduceIte, Nat.reduceEqDiff]
                      refine hK1795 _ _ ?_
                      refine wp_seq_k fun K1796 hK1796 => ?_
                      refine wp_seq_k fun K1797 hK1797 => ?_
                      refine r_list ?_
                      refine wl rfl (ky (v := vz16842_2) hS (y_move hS rfl) rfl rfl fun a hS => ?_)
                      refine wl rfl (ky (v := .int .i64 (u16841.1.length : Int)) hS (y_leno (R := R_DequeD) (xs := u16841.1) hS sl30 rfl 1 rfl 1 rfl) rfl rfl fun a hS => ?_)
                      refine wl rfl (ky (v := vz16845_2) hS (y_move hS rfl) rfl rfl fun a hS => ?_)
                      refine wl rfl (ky (v := .int .i64 (u16844.1.length : Int)) hS (y_leno (R := R_DequeD) (xs := u16844.1) hS sl30 rfl 0 rfl 0 rfl) rfl rfl fun a hS => ?_)
                      refine wl rfl (ky (v := .bool (((u16841.1.length : Int) : Int) != (u16844.1.length : Int))) hS (y_int hS rfl rfl rfl) rfl rfl fun a hS => ?_)
                      refine wl rfl (ky (v := .bool (((u16841.1.length : Int) : Int) != (u16844.1.length : Int))) hS (y_move hS rfl) rfl rfl fun a hS => ?_)
                      rcases bool2 (((u16841.1.length : Int) : Int) != (u16844.1.length : Int)) with hb16848 | hb16848
                      · replace hM := ct hb16848 hM
                        refine wn hS rfl rfl rfl hb16848 rfl rfl fun a hS => ?_
                        refine wn hS rfl rfl rfl hb16848 rfl rfl fun a hS => ?_
                        refine wn hS rfl rfl rfl hb16848 rfl rfl fun a hS => ?_
                        refine wl rfl (ky (v := .bool true) hS (y_pickt hS rfl hb16848 rfl) rfl rfl fun a hS => ?_)
                        refine wpList_nil ?_
                        try simp only [Exit.then, Exit.inBlock, ↓reduceIte, Nat.reduceEqDiff]
                        refine hK1797 _ _ ?_
                        refine c_t hS rfl rfl ?_
                        refine wp_seq_k fun K1798 hK1798 => ?_
                        refine r_list ?_
                        refine wl rfl (ky (v := .bool false) hS (y_assign hS rfl) rfl rfl fun a hS => ?_)
                        refine wpList_nil ?_
                        try simp only [Exit.then, Exit.inBlock, ↓reduceIte, Nat.reduceEqDiff]
                        refine hK1798 _ _ ?_
                        refine wp_ret ?_
                        injection hM with hM
                        subst hM
                        have hr := hf2 _ rfl
                        subst hr
                        replace hMo2 := el_out hMo2
                        have hM := hMo2
                        injection hM with hM
                        subst hM
                        have hr := hf1 _ rfl
                        subst hr
                        replace hMo1 := el_out hMo1
                        have hM := hMo1
                        injection hM with hM
                        subst hM
                        try simp only [Exit.then, Exit.inBlock, ↓reduceIte, Nat.reduceEqDiff]
                        refine ret_ok hS Tryd.results3 (res_tmp hS rfl res_nil) ?_
                        exact rfl
                      · replace hM := cf hb16848 hM
                        refine wg hS rfl rfl rfl hb16848 (ky (v := .int .i64 u16841.2) hS (y_move hS rfl) rfl rfl fun a hS => ?_)
                        refine wg hS rfl rfl rfl hb16848 (ky (v := .int .i64 u16844.2) hS (y_move hS rfl) rfl rfl fun a hS => ?_)
                        refine wg hS rfl rfl rfl hb16848 (ky (v := .bool ((u16841.2 : Int) != u16844.2)) hS (y_int hS rfl rfl rfl) rfl rfl fun a hS => ?_)
                        refine wl rfl (ky (v := .bool ((u16841.2 : Int) != u16844.2)) hS (y_pickf hS rfl hb16848 rfl) rfl rfl fun a hS => ?_)
                        refine wpList_nil ?_
                        try simp only [Exit.then, Exit.inBlock, ↓reduceIte, Nat.reduceEqDiff]
                        refine hK1797 _ _ ?_
                        rcases bool2 ((u16841.2 : Int) != u16844.2) with hb16849 | hb16849
                        · replace hM := ct hb16849 hM
                          refine c_t hS rfl hb16849 ?_
                          refine wp_seq_k fun K1799 hK1799 => ?_
                          refine r_list ?_
                          refine wl rfl (ky (v := .bool false) hS (y_assign hS rfl) rfl rfl fun a hS => ?_)
                          refine wpList_nil ?_
                          try simp only [Exit.then, Exit.inBlock, ↓reduceIte, Nat.reduceEqDiff]
                          refine hK1799 _ _ ?_
                          refine wp_ret ?_
                          injection hM with hM
                          subst hM
                          have hr := hf2 _ rfl
                          subst hr
                          replace hMo2 := el_out hMo2
                          have hM := hMo2
                          injection hM with hM
                          subst hM
                          have hr := hf1 _ rfl
                          subst hr
                          replace hMo1 := el_out hMo1
                          have hM := hMo1
                          injection hM with hM
                          subst hM
                          try simp only [Exit.then, Exit.inBlock, ↓reduceIte, Nat.reduceEqDiff]
                          refine ret_ok hS Tryd.results3 (res_tmp hS rfl res_nil) ?_
                          exact rfl
                        · replace hM := cf hb16849 hM
                          refine c_f hS rfl hb16849 ?_
                          refine wp_skip ?_
                          try simp only [Exit.then, Exit.inBlock, ↓reduceIte, Nat.reduceEqDiff]
                          refine hK1796 _ _ ?_
                          refine wp_seq_k fun K1800 hK1800 => ?_
                          refine r_list ?_
                          refine wl rfl (ky (v := vz16842_2) hS (y_move hS rfl) rfl rfl fun a hS => ?_)
                          refine wl rfl (ky (v := .int .i64 (u16841.1.length : Int)) hS (y_leno (R := R_DequeD) (xs := u16841.1) hS sl30 rfl 1 rfl 1 rfl) rfl rfl fun a hS => ?_)
                          refine wl rfl (ky (v := .int .i64 0) hS (y_move hS rfl) rfl rfl fun a hS => ?_)
                          refine wpList_nil ?_
                          try simp only [Exit.then, Exit.inBlock, ↓reduceIte, Nat.reduceEqDiff]
                          refine hK1800 _ _ ?_
                          refine wp_block ?_
                          obtain ⟨r3, hl3, hMo3⟩ := bd hM
                          refine wp_lp (fun s : Int => law32_DequeActs_l4 u16841 u16844 s) (fun s a w => ∃ (g16941 : Int), g16941 = s ∧ St W0 No T 261 [(4, .int .i64 workers_), (33, v15799), (36, vz16842_2), (38, vz16845_2), (204, v13285), (205, .int .i64 (([l_1, near7768, (l11595 ++ ([k_2]))]).length : Int)), (206, .int .i64 g13288), (214, v16222), (215, .int .i64 (([workers_, IntKind.i64.wrap (u15807 - 1), 1]).length : Int)), (216, .int .i64 g16225), (243, .int .i64 (u16841.1.length : Int)), (244, .int .i64 g16941)] [.own vz16842_2 24 R_DequeD.size clz16842_3, .own vz16845_2 24 R_DequeD.size clz16845_3, .own v13285 22 (Rep.slice R_KeyD).size cl13286, .own v16222 3 (Rep.int .i64).size cl16223] [SlF R_KeyD v15799 e15798, RowsF R_DequeD clz16842_3 u16841.1, RowsF R_DequeD clz16845_3 u16844.1, RowsF (Rep.slice R_KeyD) cl13286 g13284, RowsF (Rep.int .i64) cl16223 g16221, LvF] a w) hl3 ⟨0, rfl, (hS.meet [1, 0, 2, 3] (by decide) ⟨rfl, rfl, rfl, rfl, rfl, rfl, rfl, rfl, rfl, rfl, rfl, rfl, trivial⟩ ⟨rfl, rfl, rfl, rfl, trivial⟩ ⟨⟨2, rfl⟩, ⟨1, rfl⟩, ⟨0, rfl⟩, ⟨3, rfl⟩, ⟨4, rfl⟩, ⟨5, rfl⟩, trivial⟩)⟩ ?_
                          rintro s a w f3 ⟨g16941, rfl, hS⟩ hM hf3
                          have hM : law32_DequeActs_l4 u16841 u16844 g16941 = some f3 := hM
                          unfold law32_DequeActs_l4 at hM
                          refine wp_seq_k fun K1813 hK1813 => ?_
                          refine r_list ?_
                          refine wl rfl (ky (v := .bool (decide ((g16941 : Int) < (u16841.1.length : Int)))) hS (y_int hS rfl rfl rfl) rfl rfl fun a hS => ?_)
                          refine wpList_nil ?_
                          try simp only [Exit.then, Exit.inBlock, ↓reduceIte, Nat.reduceEqDiff]
                          refine hK1813 _ _ ?_
                          refine wp_seq_k fun K1814 hK1814 => ?_
                          rcases bool2 (decide ((g16941 : Int) < (u16841.1.length : Int))) with hb17033 | hb17033
                          · replace hM := ct hb17033 hM
                            refine c_t hS rfl hb17033 ?_
                            refine wp_skip ?_
                            try simp only [Exit.then, Exit.inBlock, ↓reduceIte, Nat.reduceEqDiff]
                            refine hK1814 _ _ ?_
                            refine wp_seq_k fun K1815 hK1815 => ?_
                            refine wp_block ?_
                            refine wp_seq_k fun K1816 hK1816 => ?_
                            refine r_list ?_
                            refine wl rfl (ky (v := .int .i64 g16941) hS (y_move hS rfl) rfl rfl fun a hS => ?_)
                            refine wl rfl (ky (v := .int .i64 g16941) hS (y_assign hS rfl) rfl rfl fun a hS => ?_)
                            refine wpList_nil ?_
                            try simp only [Exit.then, Exit.inBlock, ↓reduceIte, Nat.reduceEqDiff]
                            refine hK1816 _ _ ?_
                            refine wp_seq_k fun K1817 hK1817 => ?_
                            refine draws [] hS mixed rfl (fun c a d v w h => by cases d <;> exact h) fun w hQ hS => ?_
                            refine dy 0 (v := vz16842_2) rfl (by kernel_rfl) (by kernel_rfl) (by kernel_rfl) rfl hQ hS (y_move hS rfl) rfl rfl rfl fun a hS => ?_
                            refine dy 1 (v := .int .i64 g16941) rfl (by kernel_rfl) (by kernel_rfl) (by kernel_rfl) rfl hQ hS (y_move hS rfl) rfl rfl rfl fun a hS => ?_
                            obtain ⟨e17100, he17100, hM⟩ := bd hM
                            obtain ⟨b17102, o17103, p17108, cs17105, hr17104, hO17106, hC17107, hy17109⟩ := d_indexo (R := R_DequeD) hS sl30 ty24 0 rfl 1 rfl he17100
                            obtain ⟨v17101, rfl, hv17101⟩ := hr17104
                            replace hS := hS.fact (SlF R_KeyD v17101 e17100.Keys) hv17101
                            refine dy 2 (v := .pointer (some ⟨b17102, o17103, none⟩)) rfl (by kernel_rfl) (by kernel_rfl) (by kernel_rfl) rfl hQ hS (hy17109 rfl rfl) rfl rfl rfl fun a hS => ?_
                            refine dy (l := []) 3 (v := .agg #[v17101]) rfl (by kernel_rfl) (by kernel_rfl) (by kernel_rfl) (by kernel_rfl) hQ hS (y_loado (k := 0) hS ty24 0 rfl hO17106 hC17107 rfl eo_nil (us := [v17101]) rfl rfl (fun h => by cases h)) rfl rfl rfl fun a hS => ?_
                            refine dy 4 (v := vz16845_2) rfl (by kernel_rfl) (by kernel_rfl) (by kernel_rfl) rfl hQ hS (y_move hS rfl) rfl rfl rfl fun a hS => ?_
                            refine dy 5 (v := .int .i64 g16941) rfl (by kernel_rfl) (by kernel_rfl) (by kernel_rfl) rfl hQ hS (y_move hS rfl) rfl rfl rfl fun a hS => ?_
                            obtain ⟨e17110, he17110, hM⟩ := bd hM
                            obtain ⟨b17112, o17113, p17118, cs17115, hr17114, hO17116, hC17117, hy17119⟩ := d_indexo (R := R_DequeD) hS sl30 ty24 1 rfl 3 rfl he17110
                            obtain ⟨v17111, rfl, hv17111⟩ := hr17114
                            replace hS := hS.fact (SlF R_KeyD v17111 e17110.Keys) hv17111
                            refine dy 6 (v := .pointer (some ⟨b17112, o17113, none⟩)) rfl (by kernel_rfl) (by kernel_rfl) (by kernel_rfl) rfl hQ hS (hy17119 rfl rfl) rfl rfl rfl fun a hS => ?_
                            refine dy (l := []) 7 (v := .agg #[v17111]) rfl (by kernel_rfl) (by kernel_rfl) (by kernel_rfl) (by kernel_rfl) hQ hS (y_loado (k := 0) hS ty24 1 rfl hO17116 hC17117 rfl eo_nil (us := [v17111]) rfl rfl (fun h => by cases h)) rfl rfl rfl fun a hS => ?_
                            obtain ⟨u17120, hu17120, hM⟩ := bd hM
                            refine wpE_one (i := 8) rfl (by kernel_rfl) rfl (k_call hS ci19 rfl rfl (ref32_Same_c _ _ hS.dlt e17100 e17110 _ _ (hS.get 1 rfl) (hS.get 0 rfl) _ hu17120) fun _ w hR a hk hA => ⟨stN (hk), ?_⟩)
                            have he := Eq.symm hR
                            subst he
                            have hS := hA [] (fun r hr => by cases hr) List.Pairwise.nil
                            refine dy 9 (v := .bool (!(u17120))) rfl (by kernel_rfl) (by kernel_rfl) (by kernel_rfl) rfl hQ hS (y_not hS rfl) rfl rfl rfl fun a hS => ?_
                            refine wpE_done (by kernel_rfl) ?_ _
                            try simp only [Exit.then, Exit.inBlock, ↓reduceIte, Nat.reduceEqDiff]
                            refine hK1817 _ _ ?_
                            rcases bool2 (!(u17120)) with hb17122 | hb17122
                            · replace hM := ct hb17122 hM
                              refine c_t hS rfl hb17122 ?_
                              refine wp_seq_k fun K1818 hK1818 => ?_
                              refine r_list ?_
                              refine wl rfl (ky (v := .bool false) hS (y_assign hS rfl) rfl rfl fun a hS => ?_)
                              refine wpList_nil ?_
                              try simp only [Exit.then, Exit.inBlock, ↓reduceIte, Nat.reduceEqDiff]
                              refine hK1818 _ _ ?_
                              refine wp_ret ?_
                              injection hM with hM
                              subst hM
                              have hr := hf3 _ rfl
                              subst hr
                              replace hMo3 := el_out hMo3
                              have hM := hMo3
                              injection hM with hM
                              subst hM
                              have hr := hf2 _ rfl
                              subst hr
                              replace hMo2 := el_out hMo2
                              have hM := hMo2
                              injection hM with hM
                              subst hM
                              have hr := hf1 _ rfl
                              subst hr
                              replace hMo1 := el_out hMo1
                              have hM := hMo1
                              injection hM with hM
                              subst hM
                              try simp only [Exit.then, Exit.inBlock, ↓reduceIte, Nat.reduceEqDiff]
                              refine ret_ok hS Tryd.results3 (res_tmp hS rfl res_nil) ?_
                              exact rfl
                            · replace hM := cf hb17122 hM
                              refine c_f hS rfl hb17122 ?_
                              refine wp_skip ?_
                              try simp only [Exit.then, Exit.inBlock, ↓reduceIte, Nat.reduceEqDiff]
                              refine hK1815 _ _ ?_
                              refine r_list ?_
                              refine wl rfl (ky (v := .int .i64 (IntKind.i64.wrap (g16941 + 1))) hS (y_int hS rfl rfl rfl) rfl rfl fun a hS => ?_)
                              refine wl rfl (ky (v := .int .i64 (IntKind.i64.wrap (g16941 + 1))) hS (y_move hS rfl) rfl rfl fun a hS => ?_)
                              refine wpList_nil ?_
                              try simp only [Exit.then, Exit.inBlock, ↓reduceIte, Nat.reduceEqDiff]
                              exact ⟨IntKind.i64.wrap (g16941 + 1), (Option.some.inj hM).symm, (IntKind.i64.wrap (g16941 + 1)), rfl, (hS.meet [0, 1, 2, 3] (by decide) ⟨rfl, rfl, rfl, rfl, rfl, rfl, rfl, rfl, rfl, rfl, rfl, rfl, trivial⟩ ⟨rfl, rfl, rfl, rfl, trivial⟩ ⟨⟨2, rfl⟩, ⟨3, rfl⟩, ⟨4, rfl⟩, ⟨5, rfl⟩, ⟨6, rfl⟩, ⟨7, rfl⟩, trivial⟩)⟩
                          · replace hM := cf hb17033 hM
                            refine c_f hS rfl hb17033 ?_
                            refine wp_exit ?_
                            try simp only [Exit.then, Exit.inBlock, ↓reduceIte, Nat.reduceEqDiff]
                            injection hM with hM
                            subst hM
                            have hr := hf3 _ rfl
                            subst hr
                            replace hMo3 := el_go hMo3
                            have hM : law32_DequeActs_j3 g16221 g16225 = some f2 := hMo3
                            exact ⟨(hS.meet [2, 3] (by decide) ⟨rfl, rfl, rfl, rfl, rfl, rfl, rfl, rfl, trivial⟩ ⟨rfl, rfl, trivial⟩ ⟨⟨0, rfl⟩, ⟨3, rfl⟩, ⟨4, rfl⟩, ⟨5, rfl⟩, trivial⟩), hM⟩
                    · rintro a w ⟨hS, hM⟩
                      unfold law32_DequeActs_j3 at hM
                      refine r_list ?_
                      refine wl rfl (ky (v := .int .i64 (IntKind.i64.wrap (g16225 + 1))) hS (y_int hS rfl rfl rfl) rfl rfl fun a hS => ?_)
                      refine wl rfl (ky (v := .int .i64 (IntKind.i64.wrap (g16225 + 1))) hS (y_move hS rfl) rfl rfl fun a hS => ?_)
                      refine wpList_nil ?_
                      try simp only [Exit.then, Exit.inBlock, ↓reduceIte, Nat.reduceEqDiff]
                      exact ⟨(g16221, IntKind.i64.wrap (g16225 + 1)), (Option.some.inj hM).symm, g16221, (IntKind.i64.wrap (g16225 + 1)), v16222, cl16223, rfl, (hS.meet [0, 1] (by decide) ⟨rfl, rfl, rfl, rfl, rfl, rfl, rfl, rfl, trivial⟩ ⟨rfl, rfl, trivial⟩ ⟨⟨0, rfl⟩, ⟨1, rfl⟩, ⟨2, rfl⟩, ⟨3, rfl⟩, trivial⟩)⟩
                  · replace hM := cf hb16632 hM
                    refine c_f hS rfl hb16632 ?_
                    refine wp_exit ?_
                    try simp only [Exit.then, Exit.inBlock, ↓reduceIte, Nat.reduceEqDiff]
                    injection hM with hM
                    subst hM
                    have hr := hf2 _ rfl
                    subst hr
                    replace hMo2 := el_go hMo2
                    have hM : law32_DequeActs_j2 g13284 g13288 = some f1 := hMo2
                    exact ⟨(hS.meet [0] (by decide) ⟨rfl, rfl, rfl, rfl, trivial⟩ ⟨rfl, trivial⟩ ⟨⟨1, rfl⟩, ⟨3, rfl⟩, trivial⟩), hM⟩
                · rintro a w ⟨hS, hM⟩
                  unfold law32_DequeActs_j2 at hM
                  refine r_list ?_
                  refine wl rfl (ky (v := .int .i64 (IntKind.i64.wrap (g13288 + 1))) hS (y_int hS rfl rfl rfl) rfl rfl fun a hS => ?_)
                  refine wl rfl (ky (v := .int .i64 (IntKind.i64.wrap (g13288 + 1))) hS (y_move hS rfl) rfl rfl fun a hS => ?_)
                  refine wpList_nil ?_
                  try simp only [Exit.then, Exit.inBlock, ↓reduceIte, Nat.reduceEqDiff]
                  exact ⟨(g13284, IntKind.i64.wrap (g13288 + 1)), (Option.some.inj hM).symm, g13284, (IntKind.i64.wrap (g13288 + 1)), v13285, cl13286, rfl, (hS.meet [0] (by decide) ⟨rfl, rfl, rfl, rfl, trivial⟩ ⟨rfl, trivial⟩ ⟨⟨0, rfl⟩, ⟨1, rfl⟩, trivial⟩)⟩
              · replace hM := cf hb14963 hM
                refine c_f hS rfl hb14963 ?_
                refine wp_exit ?_
                try simp only [Exit.then, Exit.inBlock, ↓reduceIte, Nat.reduceEqDiff]
                injection hM with hM
                subst hM
                have hr := hf1 _ rfl
                subst hr
                replace hMo1 := el_go hMo1
                have hM : law32_DequeActs_j1 = some y := hMo1
                exact ⟨(hS.meet [] (by decide) trivial trivial ⟨⟨1, rfl⟩, trivial⟩), hM⟩
            · rintro a w ⟨hS, hM⟩
              unfold law32_DequeActs_j1 at hM
              refine wp_seq_k fun K1247 hK1247 => ?_
              refine r_list ?_
              obtain ⟨u11560, hu11560, hM⟩ := bd hM
              refine wl rfl (k_call hS ci12 rfl rfl (law32_awake_c _ _ hS.dlt (hS.get 0 rfl) _ hu11560) fun _ w hR a hk hA => ?_)
              have he := Eq.symm hR
              subst he
              have hS := hA [] (fun r hr => by cases hr) List.Pairwise.nil
              refine wl rfl (ky (v := .bool u11560) hS (y_assign hS rfl) rfl rfl fun a hS => ?_)
              refine wpList_nil ?_
              try simp only [Exit.then, Exit.inBlock, ↓reduceIte, Nat.reduceEqDiff]
              refine hK1247 _ _ ?_
              refine wp_ret ?_
              injection hM with hM
              subst hM
              try simp only [Exit.then, Exit.inBlock, ↓reduceIte, Nat.reduceEqDiff]
              refine ret_ok hS Tryd.results3 (res_tmp hS rfl res_nil) ?_
              exact rfl
end Go.Proofs.YthpeklnhkkadjaaDoor
