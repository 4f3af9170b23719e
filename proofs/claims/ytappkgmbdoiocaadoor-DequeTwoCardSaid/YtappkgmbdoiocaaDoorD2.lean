/- What functions of the program compute; that they do. -/
import Derived.Test.YtappkgmbdoiocaaDoorTD2
import Derived.Test.YtappkgmbdoiocaaDoorD1
set_option linter.unusedVariables false
set_option linter.unusedSimpArgs false
namespace Go.Proofs.YtappkgmbdoiocaaDoor
open Go.RowKit
noncomputable def clone_key (s_0 : (List KeyD)) : Option (List KeyD) := gd (roomB (([] : List KeyD).length + s_0.length)) <| some ((([] : List KeyD) ++ s_0))
set_option maxRecDepth 100000 in
set_option maxHeartbeats 4000000 in
theorem clone_key_c (T : Nat → Prop) (W0 : World) (hT : ∀ k, T k → k < W0.heap.size) (s_0 : (List KeyD)) (v1 : Value) (hv1 : SlR R_KeyD T W0 v1 s_0) (y : (List KeyD)) (hM : clone_key s_0 = some y) : Rets Tryd.prog No 44 [v1] W0 (fun v w' => ∃ (v2 : Value) (cl3 : List Value), v = v2 ∧ OwnR R_KeyD T W0 w' [.own v2 28 R_KeyD.size cl3] 28 v2 cl3 y) := by
  refine enter (c := _) Tryd.func44 rfl T 8 Tryd.ntmps44 hT rfl fun a hS => ?_
  replace hS := hS.fact (SlF R_KeyD v1 s_0) (SlR.dn hv1)
  unfold clone_key at hM
  refine wp_seq_k fun K6 hK6 => ?_
  refine r_list ?_
  refine wl rfl (ky (v := .slice none 0 0) hS (y_assign hS rfl) rfl rfl fun a hS => ?_)
  refine wpList_nil ?_
  try simp only [Exit.then, Exit.inBlock, ↓reduceIte, Nat.reduceEqDiff]
  refine hK6 _ _ ?_
  refine wp_seq_k fun K7 hK7 => ?_
  refine wp_seq_k fun K8 hK8 => ?_
  refine r_list ?_
  refine wl rfl (ky (v := v1) hS (y_move hS rfl) rfl rfl fun a hS => ?_)
  obtain ⟨bn12, hbn13, hy14, hy15⟩ := y_slnil (R := R_KeyD) hS sl24 0 rfl
  refine wl rfl (ky (v := .bool bn12) hS (hy14 rfl) rfl rfl fun a hS => ?_)
  refine wpList_nil ?_
  try simp only [Exit.then, Exit.inBlock, ↓reduceIte, Nat.reduceEqDiff]
  refine hK8 _ _ ?_
  rcases bool2 (bn12) with hb16 | hb16
  · rw [hbn13 hb16] at hM
    have hM : some ([]) = some y := hM
    refine c_t hS rfl hb16 ?_
    refine wp_seq_k fun K9 hK9 => ?_
    refine r_list ?_
    refine wl rfl (ky (v := .slice none 0 0) hS (y_assign hS rfl) rfl rfl fun a hS => ?_)
    refine wpList_nil ?_
    try simp only [Exit.then, Exit.inBlock, ↓reduceIte, Nat.reduceEqDiff]
    refine hK9 _ _ ?_
    refine wp_ret ?_
    injection hM with hM
    subst hM
    try simp only [Exit.then, Exit.inBlock, ↓reduceIte, Nat.reduceEqDiff]
    refine ret_ok hS Tryd.results44 (res_tmp hS rfl res_nil) ?_
    exact ⟨.slice none 0 0, [], rfl, ret_nil _ _ _ _ _ _⟩
  · skip
    refine c_f hS rfl hb16 ?_
    refine wp_skip ?_
    try simp only [Exit.then, Exit.inBlock, ↓reduceIte, Nat.reduceEqDiff]
    refine hK7 _ _ ?_
    refine wp_seq_k fun K10 hK10 => ?_
    refine r_list ?_
    refine wl rfl (k_bslice0 R_KeyD hS el24 rfl fun v17 a w hk hS => ?_)
    refine wl rfl (ky (v := v1) hS (y_move hS rfl) rfl rfl fun a hS => ?_)
    obtain ⟨hg19, hM⟩ := gd_some hM
    refine wl rfl (k_apps (R := R_KeyD) (xs := ([] : List KeyD)) (ys := s_0) hS el24 (by decide) (by decide) rfl rfl 0 rfl 0 rfl 1 rfl hg19 rfl fun v20 cl21 a w hk hS => ?_)
    refine wl rfl (ky (v := v20) hS (y_assign hS rfl) rfl rfl fun a hS => ?_)
    refine wpList_nil ?_
    try simp only [Exit.then, Exit.inBlock, ↓reduceIte, Nat.reduceEqDiff]
    refine hK10 _ _ ?_
    refine wp_ret ?_
    injection hM with hM
    subst hM
    try simp only [Exit.then, Exit.inBlock, ↓reduceIte, Nat.reduceEqDiff]
    refine ret_ok hS Tryd.results44 (res_tmp hS rfl res_nil) ?_
    exact ⟨v20, cl21, rfl, hS.retOwn ⟨.inr (List.mem_of_getElem? (i := 0) rfl), trivial⟩ 0 rfl 0 rfl⟩

noncomputable def indexf_key_j1 : Option Int := some ((-1))
noncomputable def indexf_key_l2 (s_0 : (List KeyD)) (f_1 : KeyD → Option Bool) (g47 : Int) (g48 : Int) : Option (Fl (Int × Int) (Fl (Unit) Int)) := cond (decide ((g48 : Int) < g47)) ((getI s_0 g48).bind fun e62 => (f_1 e62).bind fun u68 => cond u68 (some (.out (.out g48))) (some (.go (g47, IntKind.i64.wrap (g48 + 1))))) (some (.out (.go ())))
noncomputable def indexf_key (f_1 : KeyD → Option Bool) (s_0 : (List KeyD)) : Option Int := (loop (fun s : Int × Int => indexf_key_l2 s_0 f_1 s.1 s.2) ((s_0.length : Int), 0)).bind fun r => Fl.el r (fun s => indexf_key_j1) (fun y => some (y))
set_option maxRecDepth 100000 in
set_option maxHeartbeats 4000000 in
theorem indexf_key_c (T : Nat → Prop) (W0 : World) (hT : ∀ k, T k → k < W0.heap.size) (hLv : LvP T W0) (f_1g : Nat) (hcf_1 : callI Tryd.prog f_1g = true) (f_1 : KeyD → Option Bool) (hf_1 : ∀ (T : Nat → Prop) (W0 : World) (hT : ∀ k, T k → k < W0.heap.size) (hLv : LvP T W0) (x0 : KeyD) (y : Bool) (hM : f_1 x0 = some y), Rets Tryd.prog No f_1g [.agg #[.int .i64 x0.Kind, .string x0.Text]] W0 (fun v w' => v = .bool y)) (s_0 : (List KeyD)) (v1 : Value) (hv1 : SlR R_KeyD T W0 v1 s_0) (y : Int) (hM : indexf_key f_1 s_0 = some y) : Rets Tryd.prog No 64 [v1, .func (.func f_1g) #[] #[]] W0 (fun v w' => v = .int .i64 y) := by
  refine enter (c := _) Tryd.func64 rfl T 19 Tryd.ntmps64 hT rfl fun a hS => ?_
  replace hS := hS.fact LvF (LvP.dn hLv)
  replace hS := hS.fact (SlF R_KeyD v1 s_0) (SlR.dn hv1)
  unfold indexf_key at hM
  refine wp_seq_k fun K17 hK17 => ?_
  refine r_list ?_
  refine wl rfl (ky (v := .int .i64 0) hS (y_assign hS rfl) rfl rfl fun a hS => ?_)
  refine wpList_nil ?_
  try simp only [Exit.then, Exit.inBlock, ↓reduceIte, Nat.reduceEqDiff]
  refine hK17 _ _ ?_
  refine seq_j (J := fun a w => St W0 No T 19 [] [] [LvF] a w ∧ indexf_key_j1 = some y) ?_ ?_
  · skip
    refine wp_seq_k fun K26 hK26 => ?_
    refine r_list ?_
    refine wl rfl (ky (v := v1) hS (y_move hS rfl) rfl rfl fun a hS => ?_)
    refine wl rfl (ky (v := .int .i64 (s_0.length : Int)) hS (y_len (R := R_KeyD) (xs := s_0) hS sl24 rfl 0 rfl) rfl rfl fun a hS => ?_)
    refine wl rfl (ky (v := .int .i64 0) hS (y_move hS rfl) rfl rfl fun a hS => ?_)
    refine wpList_nil ?_
    try simp only [Exit.then, Exit.inBlock, ↓reduceIte, Nat.reduceEqDiff]
    refine hK26 _ _ ?_
    refine wp_block ?_
    obtain ⟨r1, hl1, hMo1⟩ := bd hM
    refine wp_lp (fun s : Int × Int => indexf_key_l2 s_0 f_1 s.1 s.2) (fun s a w => ∃ (g47 : Int) (g48 : Int), (g47, g48) = s ∧ St W0 No T 19 [(0, v1), (1, .func (.func f_1g) #[] #[]), (7, .int .i64 g47), (8, .int .i64 g48)] [] [SlF R_KeyD v1 s_0, LvF] a w) hl1 ⟨(s_0.length : Int), 0, rfl, (hS.meet [] (by decide) ⟨rfl, rfl, rfl, rfl, trivial⟩ trivial ⟨⟨0, rfl⟩, ⟨1, rfl⟩, trivial⟩)⟩ ?_
    rintro s a w f1 ⟨g47, g48, rfl, hS⟩ hM hf1
    have hM : indexf_key_l2 s_0 f_1 g47 g48 = some f1 := hM
    unfold indexf_key_l2 at hM
    refine wp_seq_k fun K33 hK33 => ?_
    refine r_list ?_
    refine wl rfl (ky (v := .bool (decide ((g48 : Int) < g47))) hS (y_int hS rfl rfl rfl) rfl rfl fun a hS => ?_)
    refine wpList_nil ?_
    try simp only [Exit.then, Exit.inBlock, ↓reduceIte, Nat.reduceEqDiff]
    refine hK33 _ _ ?_
    refine wp_seq_k fun K34 hK34 => ?_
    rcases bool2 (decide ((g48 : Int) < g47)) with hb61 | hb61
    · replace hM := ct hb61 hM
      refine c_t hS rfl hb61 ?_
      refine wp_skip ?_
      try simp only [Exit.then, Exit.inBlock, ↓reduceIte, Nat.reduceEqDiff]
      refine hK34 _ _ ?_
      refine wp_seq_k fun K35 hK35 => ?_
      refine wp_block ?_
      refine wp_seq_k fun K36 hK36 => ?_
      refine r_list ?_
      refine wl rfl (ky (v := .int .i64 g48) hS (y_move hS rfl) rfl rfl fun a hS => ?_)
      refine wl rfl (ky (v := .int .i64 g48) hS (y_assign hS rfl) rfl rfl fun a hS => ?_)
      refine wpList_nil ?_
      try simp only [Exit.then, Exit.inBlock, ↓reduceIte, Nat.reduceEqDiff]
      refine hK36 _ _ ?_
      refine wp_seq_k fun K37 hK37 => ?_
      refine r_list ?_
      refine wl rfl (ky (v := .func (.func f_1g) #[] #[]) hS (y_move hS rfl) rfl rfl fun a hS => ?_)
      refine wl rfl (ky (v := v1) hS (y_move hS rfl) rfl rfl fun a hS => ?_)
      refine wl rfl (ky (v := .int .i64 g48) hS (y_move hS rfl) rfl rfl fun a hS => ?_)
      obtain ⟨e62, he62, hM⟩ := bd hM
      refine wl rfl (k_index (R := R_KeyD) hS sl24 ty28 rfl rfl 0 rfl he62 rfl fun b63 o64 cs66 hr65 a hS => ?_)
      obtain rfl := hr65
      refine wl rfl (ky (v := .agg #[.int .i64 e62.Kind, .string e62.Text]) hS (y_loadc (k := 0) hS ty28 0 rfl rfl (fun _ h => h.elim) (us := [.int .i64 e62.Kind, .string e62.Text]) rfl rfl (fun h => by cases h)) rfl rfl fun a hS => ?_)
      obtain ⟨u68, hu68, hM⟩ := bd hM
      refine wl rfl (k_callv (cap := []) hS rfl hcf_1 rfl rfl (hf_1 _ _ hS.dlt (hS.get 2 rfl) e62 _ hu68) fun _ w hR a hk hA => ?_)
      have he := Eq.symm hR
      subst he
      have hS := hA [] (fun r hr => by cases hr) List.Pairwise.nil
      refine wpList_nil ?_
      try simp only [Exit.then, Exit.inBlock, ↓reduceIte, Nat.reduceEqDiff]
      refine hK37 _ _ ?_
      rcases bool2 (u68) with hb70 | hb70
      · replace hM := ct hb70 hM
        refine c_t hS rfl hb70 ?_
        refine wp_seq_k fun K38 hK38 => ?_
        refine r_list ?_
        refine wl rfl (ky (v := .int .i64 g48) hS (y_move hS rfl) rfl rfl fun a hS => ?_)
        refine wl rfl (ky (v := .int .i64 g48) hS (y_assign hS rfl) rfl rfl fun a hS => ?_)
        refine wpList_nil ?_
        try simp only [Exit.then, Exit.inBlock, ↓reduceIte, Nat.reduceEqDiff]
        refine hK38 _ _ ?_
        refine wp_ret ?_
        injection hM with hM
        subst hM
        have hr := hf1 _ rfl
        subst hr
        replace hMo1 := el_out hMo1
        have hM := hMo1
        injection hM with hM
        subst hM
        try simp only [Exit.then, Exit.inBlock, ↓reduceIte, Nat.reduceEqDiff]
        refine ret_ok hS Tryd.results64 (res_tmp hS rfl res_nil) ?_
        exact rfl
      · replace hM := cf hb70 hM
        refine c_f hS rfl hb70 ?_
        refine wp_skip ?_
        try simp only [Exit.then, Exit.inBlock, ↓reduceIte, Nat.reduceEqDiff]
        refine hK35 _ _ ?_
        refine r_list ?_
        refine wl rfl (ky (v := .int .i64 (IntKind.i64.wrap (g48 + 1))) hS (y_int hS rfl rfl rfl) rfl rfl fun a hS => ?_)
        refine wl rfl (ky (v := .int .i64 (IntKind.i64.wrap (g48 + 1))) hS (y_move hS rfl) rfl rfl fun a hS => ?_)
        refine wpList_nil ?_
        try simp only [Exit.then, Exit.inBlock, ↓reduceIte, Nat.reduceEqDiff]
        exact ⟨(g47, IntKind.i64.wrap (g48 + 1)), (Option.some.inj hM).symm, g47, (IntKind.i64.wrap (g48 + 1)), rfl, (hS.meet [] (by decide) ⟨rfl, rfl, rfl, rfl, trivial⟩ trivial ⟨⟨1, rfl⟩, ⟨2, rfl⟩, trivial⟩)⟩
    · replace hM := cf hb61 hM
      refine c_f hS rfl hb61 ?_
      refine wp_exit ?_
      try simp only [Exit.then, Exit.inBlock, ↓reduceIte, Nat.reduceEqDiff]
      injection hM with hM
      subst hM
      have hr := hf1 _ rfl
      subst hr
      replace hMo1 := el_go hMo1
      have hM : indexf_key_j1 = some y := hMo1
      exact ⟨(hS.meet [] (by decide) trivial trivial ⟨⟨1, rfl⟩, trivial⟩), hM⟩
  · rintro a w ⟨hS, hM⟩
    unfold indexf_key_j1 at hM
    refine wp_seq_k fun K25 hK25 => ?_
    refine r_list ?_
    refine wl rfl (ky (v := .int .i64 (-1)) hS (y_assign hS rfl) rfl rfl fun a hS => ?_)
    refine wpList_nil ?_
    try simp only [Exit.then, Exit.inBlock, ↓reduceIte, Nat.reduceEqDiff]
    refine hK25 _ _ ?_
    refine wp_ret ?_
    injection hM with hM
    subst hM
    try simp only [Exit.then, Exit.inBlock, ↓reduceIte, Nat.reduceEqDiff]
    refine ret_ok hS Tryd.results64 (res_tmp hS rfl res_nil) ?_
    exact rfl

noncomputable def containsf_key (f_1 : KeyD → Option Bool) (s_0 : (List KeyD)) : Option Bool := (indexf_key f_1 s_0).bind fun u3 => some (decide ((0 : Int) ≤ u3))
set_option maxRecDepth 100000 in
set_option maxHeartbeats 4000000 in
theorem containsf_key_c (T : Nat → Prop) (W0 : World) (hT : ∀ k, T k → k < W0.heap.size) (hLv : LvP T W0) (f_1g : Nat) (hcf_1 : callI Tryd.prog f_1g = true) (f_1 : KeyD → Option Bool) (hf_1 : ∀ (T : Nat → Prop) (W0 : World) (hT : ∀ k, T k → k < W0.heap.size) (hLv : LvP T W0) (x0 : KeyD) (y : Bool) (hM : f_1 x0 = some y), Rets Tryd.prog No f_1g [.agg #[.int .i64 x0.Kind, .string x0.Text]] W0 (fun v w' => v = .bool y)) (s_0 : (List KeyD)) (v1 : Value) (hv1 : SlR R_KeyD T W0 v1 s_0) (y : Bool) (hM : containsf_key f_1 s_0 = some y) : Rets Tryd.prog No 47 [v1, .func (.func f_1g) #[] #[]] W0 (fun v w' => v = .bool y) := by
  refine enter (c := _) Tryd.func47 rfl T 9 Tryd.ntmps47 hT rfl fun a hS => ?_
  replace hS := hS.fact LvF (LvP.dn hLv)
  replace hS := hS.fact (SlF R_KeyD v1 s_0) (SlR.dn hv1)
  unfold containsf_key at hM
  refine wp_seq_k fun K3 hK3 => ?_
  refine r_list ?_
  refine wl rfl (ky (v := .bool false) hS (y_assign hS rfl) rfl rfl fun a hS => ?_)
  refine wpList_nil ?_
  try simp only [Exit.then, Exit.inBlock, ↓reduceIte, Nat.reduceEqDiff]
  refine hK3 _ _ ?_
  refine wp_seq_k fun K4 hK4 => ?_
  refine r_list ?_
  refine wl rfl (ky (v := v1) hS (y_move hS rfl) rfl rfl fun a hS => ?_)
  refine wl rfl (ky (v := .func (.func f_1g) #[] #[]) hS (y_move hS rfl) rfl rfl fun a hS => ?_)
  obtain ⟨u3, hu3, hM⟩ := bd hM
  refine wl rfl (k_call hS ci64 rfl rfl (indexf_key_c _ _ hS.dlt (hS.get 1 rfl) f_1g hcf_1 f_1 hf_1 s_0 _ (hS.get 0 rfl) _ hu3) fun _ w hR a hk hA => ?_)
  have he := Eq.symm hR
  subst he
  have hS := hA [] (fun r hr => by cases hr) List.Pairwise.nil
  refine wl rfl (ky (v := .bool (decide ((0 : Int) ≤ u3))) hS (y_int hS rfl rfl rfl) rfl rfl fun a hS => ?_)
  refine wl rfl (ky (v := .bool (decide ((0 : Int) ≤ u3))) hS (y_assign hS rfl) rfl rfl fun a hS => ?_)
  refine wpList_nil ?_
  try simp only [Exit.then, Exit.inBlock, ↓reduceIte, Nat.reduceEqDiff]
  refine hK4 _ _ ?_
  refine wp_ret ?_
  injection hM with hM
  subst hM
  try simp only [Exit.then, Exit.inBlock, ↓reduceIte, Nat.reduceEqDiff]
  refine ret_ok hS Tryd.results47 (res_tmp hS rfl res_nil) ?_
  exact rfl

noncomputable def key_Number (k_0 : KeyD) : Option Int := (key_toy k_0.Kind).bind fun u33 => cond (!(u33)) (some ((-1))) ((atoiM k_0.Text).bind fun u36 => cond u36.2 (some ((-1))) (cond (decide ((u36.1 : Int) < 0)) (some ((-1))) (cond (decide ((99 : Int) < u36.1)) (some ((-1))) ((itoaM u36.1).bind fun u56 => cond (!(u56.toList == k_0.Text.toList)) (some ((-1))) (some (u36.1))))))
set_option maxRecDepth 100000 in
set_option maxHeartbeats 4000000 in
theorem key_Number_c (T : Nat → Prop) (W0 : World) (hT : ∀ k, T k → k < W0.heap.size) (hLv : LvP T W0) (k_0 : KeyD) (y : Int) (hM : key_Number k_0 = some y) : Rets Tryd.prog No 55 [.agg #[.int .i64 k_0.Kind, .string k_0.Text]] W0 (fun v w' => v = .int .i64 y) := by
  refine enter (c := _) Tryd.func55 rfl T 33 Tryd.ntmps55 hT rfl fun a hS => ?_
  replace hS := hS.fact LvF (LvP.dn hLv)
  unfold key_Number at hM
  refine wp_seq_k fun K13 hK13 => ?_
  refine r_list ?_
  refine wl rfl (k_box hS rfl (cs := [.int .i64 k_0.Kind, .string k_0.Text]) rfl rfl fun b30 hnb32 a w hk hS => ?_)
  refine wl rfl (ky (v := .int .i64 0) hS (y_assign hS rfl) rfl rfl fun a hS => ?_)
  refine wpList_nil ?_
  try simp only [Exit.then, Exit.inBlock, ↓reduceIte, Nat.reduceEqDiff]
  refine hK13 _ _ ?_
  refine wp_seq_k fun K14 hK14 => ?_
  refine wp_seq_k fun K15 hK15 => ?_
  refine r_list ?_
  refine wl rfl (ky (v := .pointer (some ⟨b30, 0 + 0, none⟩)) hS (y_fld hS rfl fl28_0) rfl rfl fun a hS => ?_)
  refine wl rfl (ky (v := .int .i64 k_0.Kind) hS (y_load hS rfl ty3 0 rfl id (us := [.int .i64 k_0.Kind]) rfl rfl (fun _ => rfl)) rfl rfl fun a hS => ?_)
  obtain ⟨u33, hu33, hM⟩ := bd hM
  refine wl rfl (k_call hS ci62 rfl rfl (key_toy_c _ _ hS.dlt k_0.Kind _ hu33) fun _ w hR a hk hA => ?_)
  have he := Eq.symm hR
  subst he
  have hS := hA [] (fun r hr => by cases hr) List.Pairwise.nil
  refine wl rfl (ky (v := .bool (!(u33))) hS (y_not hS rfl) rfl rfl fun a hS => ?_)
  refine wpList_nil ?_
  try simp only [Exit.then, Exit.inBlock, ↓reduceIte, Nat.reduceEqDiff]
  refine hK15 _ _ ?_
  rcases bool2 (!(u33)) with hb35 | hb35
  · replace hM := ct hb35 hM
    refine c_t hS rfl hb35 ?_
    refine wp_seq_k fun K16 hK16 => ?_
    refine r_list ?_
    refine wl rfl (ky (v := .int .i64 (-1)) hS (y_assign hS rfl) rfl rfl fun a hS => ?_)
    refine wpList_nil ?_
    try simp only [Exit.then, Exit.inBlock, ↓reduceIte, Nat.reduceEqDiff]
    refine hK16 _ _ ?_
    refine wp_ret ?_
    injection hM with hM
    subst hM
    try simp only [Exit.then, Exit.inBlock, ↓reduceIte, Nat.reduceEqDiff]
    refine ret_ok hS Tryd.results55 (res_tmp hS rfl res_nil) ?_
    exact rfl
  · replace hM := cf hb35 hM
    refine c_f hS rfl hb35 ?_
    refine wp_skip ?_
    try simp only [Exit.then, Exit.inBlock, ↓reduceIte, Nat.reduceEqDiff]
    refine hK14 _ _ ?_
    refine wp_seq_k fun K17 hK17 => ?_
    refine r_list ?_
    refine wl rfl (ky (v := .pointer (some ⟨b30, 0 + 1, none⟩)) hS (y_fld hS rfl fl28_1) rfl rfl fun a hS => ?_)
    refine wl rfl (ky (v := .string k_0.Text) hS (y_load hS rfl ty9 0 rfl id (us := [.string k_0.Text]) rfl rfl (fun _ => rfl)) rfl rfl fun a hS => ?_)
    obtain ⟨u36, hu36, hM⟩ := bd hM
    refine wl rfl (k_call hS ci60 rfl rfl (atoiM_c _ _ hS.dlt (hS.get 0 rfl) k_0.Text _ hu36) fun _ w hR a hk hA => ?_)
    obtain ⟨vz37_1, he, hEvz37_1⟩ := hR
    replace he := he.symm
    subst he
    have hS := hA [] (fun r hr => by cases hr) List.Pairwise.nil
    refine wl rfl (ky (v := .tuple #[.int .i64 u36.1, vz37_1]) hS (y_move hS rfl) rfl rfl fun a hS => ?_)
    refine wl rfl (ky (v := .int .i64 u36.1) hS (y_ex hS rfl rfl) rfl rfl fun a hS => ?_)
    refine wl rfl (ky (v := vz37_1) hS (y_ex hS rfl rfl) rfl rfl fun a hS => ?_)
    refine wl rfl (ky (v := .int .i64 u36.1) hS (y_assign hS rfl) rfl rfl fun a hS => ?_)
    refine wl rfl (ky (v := vz37_1) hS (y_assign hS rfl) rfl rfl fun a hS => ?_)
    refine wpList_nil ?_
    try simp only [Exit.then, Exit.inBlock, ↓reduceIte, Nat.reduceEqDiff]
    refine hK17 _ _ ?_
    refine wp_seq_k fun K18 hK18 => ?_
    refine wp_seq_k fun K19 hK19 => ?_
    refine draws [] hS mixed rfl (fun c a d v w h => by cases d <;> exact h) fun w hQ hS => ?_
    refine dy 0 (v := vz37_1) rfl (by kernel_rfl) (by kernel_rfl) (by kernel_rfl) rfl hQ hS (y_move hS rfl) rfl rfl rfl fun a hS => ?_
    refine dy 1 (v := .bool u36.2) rfl (by kernel_rfl) (by kernel_rfl) (by kernel_rfl) rfl hQ hS (y_errne hS rfl hEvz37_1 if90) rfl rfl rfl fun a hS => ?_
    refine dy 2 (v := .bool u36.2) rfl (by kernel_rfl) (by kernel_rfl) (by kernel_rfl) rfl hQ hS (y_move hS rfl) rfl rfl rfl fun a hS => ?_
    rcases bool2 (u36.2) with hb53 | hb53
    · replace hM := ct hb53 hM
      refine dyn 3 rfl (by kernel_rfl) (by kernel_rfl) (by kernel_rfl) hQ hS rfl rfl rfl hb53 rfl rfl fun a hS => ?_
      refine dyn 4 rfl (by kernel_rfl) (by kernel_rfl) (by kernel_rfl) hQ hS rfl rfl rfl hb53 rfl rfl fun a hS => ?_
      refine dy 5 (v := .bool true) rfl (by kernel_rfl) (by kernel_rfl) (by kernel_rfl) rfl hQ hS (y_pickt hS rfl hb53 rfl) rfl rfl rfl fun a hS => ?_
      refine dy 6 (v := .bool true) rfl (by kernel_rfl) (by kernel_rfl) (by kernel_rfl) rfl hQ hS (y_move hS rfl) rfl rfl rfl fun a hS => ?_
      refine dyn 7 rfl (by kernel_rfl) (by kernel_rfl) (by kernel_rfl) hQ hS rfl rfl rfl rfl rfl rfl fun a hS => ?_
      refine dyn 8 rfl (by kernel_rfl) (by kernel_rfl) (by kernel_rfl) hQ hS rfl rfl rfl rfl rfl rfl fun a hS => ?_
      refine dy 9 (v := .bool true) rfl (by kernel_rfl) (by kernel_rfl) (by kernel_rfl) rfl hQ hS (y_pickt hS rfl rfl rfl) rfl rfl rfl fun a hS => ?_
      refine dy 10 (v := .bool true) rfl (by kernel_rfl) (by kernel_rfl) (by kernel_rfl) rfl hQ hS (y_move hS rfl) rfl rfl rfl fun a hS => ?_
      refine dyn 11 rfl (by kernel_rfl) (by kernel_rfl) (by kernel_rfl) hQ hS rfl rfl rfl rfl rfl rfl fun a hS => ?_
      refine dyn 12 rfl (by kernel_rfl) (by kernel_rfl) (by kernel_rfl) hQ hS rfl rfl rfl rfl rfl rfl fun a hS => ?_
      refine dyn 13 rfl (by kernel_rfl) (by kernel_rfl) (by kernel_rfl) hQ hS rfl rfl rfl rfl rfl rfl fun a hS => ?_
      refine dyn 14 rfl (by kernel_rfl) (by kernel_rfl) (by kernel_rfl) hQ hS rfl rfl rfl rfl rfl rfl fun a hS => ?_
      refine dyn 15 rfl (by kernel_rfl) (by kernel_rfl) (by kernel_rfl) hQ hS rfl rfl rfl rfl rfl rfl fun a hS => ?_
      refine dy 16 (v := .bool true) rfl (by kernel_rfl) (by kernel_rfl) (by kernel_rfl) rfl hQ hS (y_pickt hS rfl rfl rfl) rfl rfl rfl fun a hS => ?_
      refine wpE_done (by kernel_rfl) ?_ _
      try simp only [Exit.then, Exit.inBlock, ↓reduceIte, Nat.reduceEqDiff]
      refine hK19 _ _ ?_
      refine c_t hS rfl rfl ?_
      refine wp_seq_k fun K20 hK20 => ?_
      refine r_list ?_
      refine wl rfl (ky (v := .int .i64 (-1)) hS (y_assign hS rfl) rfl rfl fun a hS => ?_)
      refine wpList_nil ?_
      try simp only [Exit.then, Exit.inBlock, ↓reduceIte, Nat.reduceEqDiff]
      refine hK20 _ _ ?_
      refine wp_ret ?_
      injection hM with hM
      subst hM
      try simp only [Exit.then, Exit.inBlock, ↓reduceIte, Nat.reduceEqDiff]
      refine ret_ok hS Tryd.results55 (res_tmp hS rfl res_nil) ?_
      exact rfl
    · replace hM := cf hb53 hM
      refine dyg 3 (v := .int .i64 u36.1) rfl (by kernel_rfl) (by kernel_rfl) (by kernel_rfl) rfl hQ hS (y_move hS rfl) rfl rfl rfl hb53 rfl rfl fun a hS => ?_
      refine dyg 4 (v := .bool (decide ((u36.1 : Int) < 0))) rfl (by kernel_rfl) (by kernel_rfl) (by kernel_rfl) rfl hQ hS (y_int hS rfl rfl rfl) rfl rfl rfl hb53 rfl rfl fun a hS => ?_
      refine dy 5 (v := .bool (decide ((u36.1 : Int) < 0))) rfl (by kernel_rfl) (by kernel_rfl) (by kernel_rfl) rfl hQ hS (y_pickf hS rfl hb53 rfl) rfl rfl rfl fun a hS => ?_
      refine dy 6 (v := .bool (decide ((u36.1 : Int) < 0))) rfl (by kernel_rfl) (by kernel_rfl) (by kernel_rfl) rfl hQ hS (y_move hS rfl) rfl rfl rfl fun a hS => ?_
      rcases bool2 (decide ((u36.1 : Int) < 0)) with hb54 | hb54
      · replace hM := ct hb54 hM
        refine dyn 7 rfl (by kernel_rfl) (by kernel_rfl) (by kernel_rfl) hQ hS rfl rfl rfl hb54 rfl rfl fun a hS => ?_
        refine dyn 8 rfl (by kernel_rfl) (by kernel_rfl) (by kernel_rfl) hQ hS rfl rfl rfl hb54 rfl rfl fun a hS => ?_
        refine dy 9 (v := .bool true) rfl (by kernel_rfl) (by kernel_rfl) (by kernel_rfl) rfl hQ hS (y_pickt hS rfl hb54 rfl) rfl rfl rfl fun a hS => ?_
        refine dy 10 (v := .bool true) rfl (by kernel_rfl) (by kernel_rfl) (by kernel_rfl) rfl hQ hS (y_move hS rfl) rfl rfl rfl fun a hS => ?_
        refine dyn 11 rfl (by kernel_rfl) (by kernel_rfl) (by kernel_rfl) hQ hS rfl rfl rfl rfl rfl rfl fun a hS => ?_
        refine dyn 12 rfl (by kernel_rfl) (by kernel_rfl) (by kernel_rfl) hQ hS rfl rfl rfl rfl rfl rfl fun a hS => ?_
        refine dyn 13 rfl (by kernel_rfl) (by kernel_rfl) (by kernel_rfl) hQ hS rfl rfl rfl rfl rfl rfl fun a hS => ?_
        refine dyn 14 rfl (by kernel_rfl) (by kernel_rfl) (by kernel_rfl) hQ hS rfl rfl rfl rfl rfl rfl fun a hS => ?_
        refine dyn 15 rfl (by kernel_rfl) (by kernel_rfl) (by kernel_rfl) hQ hS rfl rfl rfl rfl rfl rfl fun a hS => ?_
        refine dy 16 (v := .bool true) rfl (by kernel_rfl) (by kernel_rfl) (by kernel_rfl) rfl hQ hS (y_pickt hS rfl rfl rfl) rfl rfl rfl fun a hS => ?_
        refine wpE_done (by kernel_rfl) ?_ _
        try simp only [Exit.then, Exit.inBlock, ↓reduceIte, Nat.reduceEqDiff]
        refine hK19 _ _ ?_
        refine c_t hS rfl rfl ?_
        refine wp_seq_k fun K21 hK21 => ?_
        refine r_list ?_
        refine wl rfl (ky (v := .int .i64 (-1)) hS (y_assign hS rfl) rfl rfl fun a hS => ?_)
        refine wpList_nil ?_
        try simp only [Exit.then, Exit.inBlock, ↓reduceIte, Nat.reduceEqDiff]
        refine hK21 _ _ ?_
        refine wp_ret ?_
        injection hM with hM
        subst hM
        try simp only [Exit.then, Exit.inBlock, ↓reduceIte, Nat.reduceEqDiff]
        refine ret_ok hS Tryd.results55 (res_tmp hS rfl res_nil) ?_
        exact rfl
      · replace hM := cf hb54 hM
        refine dyg 7 (v := .int .i64 u36.1) rfl (by kernel_rfl) (by kernel_rfl) (by kernel_rfl) rfl hQ hS (y_move hS rfl) rfl rfl rfl hb54 rfl rfl fun a hS => ?_
        refine dyg 8 (v := .bool (decide ((99 : Int) < u36.1))) rfl (by kernel_rfl) (by kernel_rfl) (by kernel_rfl) rfl hQ hS (y_int hS rfl rfl rfl) rfl rfl rfl hb54 rfl rfl fun a hS => ?_
        refine dy 9 (v := .bool (decide ((99 : Int) < u36.1))) rfl (by kernel_rfl) (by kernel_rfl) (by kernel_rfl) rfl hQ hS (y_pickf hS rfl hb54 rfl) rfl rfl rfl fun a hS => ?_
        refine dy 10 (v := .bool (decide ((99 : Int) < u36.1))) rfl (by kernel_rfl) (by kernel_rfl) (by kernel_rfl) rfl hQ hS (y_move hS rfl) rfl rfl rfl fun a hS => ?_
        rcases bool2 (decide ((99 : Int) < u36.1)) with hb55 | hb55
        · replace hM := ct hb55 hM
          refine dyn 11 rfl (by kernel_rfl) (by kernel_rfl) (by kernel_rfl) hQ hS rfl rfl rfl hb55 rfl rfl fun a hS => ?_
          refine dyn 12 rfl (by kernel_rfl) (by kernel_rfl) (by kernel_rfl) hQ hS rfl rfl rfl hb55 rfl rfl fun a hS => ?_
          refine dyn 13 rfl (by kernel_rfl) (by kernel_rfl) (by kernel_rfl) hQ hS rfl rfl rfl hb55 rfl rfl fun a hS => ?_
          refine dyn 14 rfl (by kernel_rfl) (by kernel_rfl) (by kernel_rfl) hQ hS rfl rfl rfl hb55 rfl rfl fun a hS => ?_
          refine dyn 15 rfl (by kernel_rfl) (by kernel_rfl) (by kernel_rfl) hQ hS rfl rfl rfl hb55 rfl rfl fun a hS => ?_
          refine dy 16 (v := .bool true) rfl (by kernel_rfl) (by kernel_rfl) (by kernel_rfl) rfl hQ hS (y_pickt hS rfl hb55 rfl) rfl rfl rfl fun a hS => ?_
          refine wpE_done (by kernel_rfl) ?_ _
          try simp only [Exit.then, Exit.inBlock, ↓reduceIte, Nat.reduceEqDiff]
          refine hK19 _ _ ?_
          refine c_t hS rfl rfl ?_
          refine wp_seq_k fun K22 hK22 => ?_
          refine r_list ?_
          refine wl rfl (ky (v := .int .i64 (-1)) hS (y_assign hS rfl) rfl rfl fun a hS => ?_)
          refine wpList_nil ?_
          try simp only [Exit.then, Exit.inBlock, ↓reduceIte, Nat.reduceEqDiff]
          refine hK22 _ _ ?_
          refine wp_ret ?_
          injection hM with hM
          subst hM
          try simp only [Exit.then, Exit.inBlock, ↓reduceIte, Nat.reduceEqDiff]
          refine ret_ok hS Tryd.results55 (res_tmp hS rfl res_nil) ?_
          exact rfl
        · replace hM := cf hb55 hM
          refine dyg 11 (v := .int .i64 u36.1) rfl (by kernel_rfl) (by kernel_rfl) (by kernel_rfl) rfl hQ hS (y_move hS rfl) rfl rfl rfl hb55 rfl rfl fun a hS => ?_
          refine dyg 13 (v := .pointer (some ⟨b30, 0 + 1, none⟩)) rfl (by kernel_rfl) (by kernel_rfl) (by kernel_rfl) rfl hQ hS (y_fld hS rfl fl28_1) rfl rfl rfl hb55 rfl rfl fun a hS => ?_
          refine dyg (l := []) 14 (v := .string k_0.Text) rfl (by kernel_rfl) (by kernel_rfl) (by kernel_rfl) (by kernel_rfl) hQ hS (y_load hS rfl ty9 0 rfl eo_nil (us := [.string k_0.Text]) rfl rfl (fun _ => rfl)) rfl rfl rfl hb55 rfl rfl fun a hS => ?_
          obtain ⟨u56, hu56, hM⟩ := bd hM
          refine wpE_oneg (i := 12) rfl (by kernel_rfl) hS rfl rfl rfl hb55 (k_call hS ci36 rfl rfl (itoaM_c _ _ hS.dlt (hS.get 0 rfl) u36.1 _ hu56) fun _ w hR a hk hA => ⟨stN (hk), ?_⟩)
          have he := Eq.symm hR
          subst he
          have hS := hA [] (fun r hr => by cases hr) List.Pairwise.nil
          refine dyg 15 (v := .bool (!(u56.toList == k_0.Text.toList))) rfl (by kernel_rfl) (by kernel_rfl) (by kernel_rfl) rfl hQ hS (y_str hS rfl rfl rfl) rfl rfl rfl hb55 rfl rfl fun a hS => ?_
          refine dy 16 (v := .bool (!(u56.toList == k_0.Text.toList))) rfl (by kernel_rfl) (by kernel_rfl) (by kernel_rfl) rfl hQ hS (y_pickf hS rfl hb55 rfl) rfl rfl rfl fun a hS => ?_
          refine wpE_done (by kernel_rfl) ?_ _
          try simp only [Exit.then, Exit.inBlock, ↓reduceIte, Nat.reduceEqDiff]
          refine hK19 _ _ ?_
          rcases bool2 (!(u56.toList == k_0.Text.toList)) with hb58 | hb58
          · replace hM := ct hb58 hM
            refine c_t hS rfl hb58 ?_
            refine wp_seq_k fun K23 hK23 => ?_
            refine r_list ?_
            refine wl rfl (ky (v := .int .i64 (-1)) hS (y_assign hS rfl) rfl rfl fun a hS => ?_)
            refine wpList_nil ?_
            try simp only [Exit.then, Exit.inBlock, ↓reduceIte, Nat.reduceEqDiff]
            refine hK23 _ _ ?_
            refine wp_ret ?_
            injection hM with hM
            subst hM
            try simp only [Exit.then, Exit.inBlock, ↓reduceIte, Nat.reduceEqDiff]
            refine ret_ok hS Tryd.results55 (res_tmp hS rfl res_nil) ?_
            exact rfl
          · replace hM := cf hb58 hM
            refine c_f hS rfl hb58 ?_
            refine wp_skip ?_
            try simp only [Exit.then, Exit.inBlock, ↓reduceIte, Nat.reduceEqDiff]
            refine hK18 _ _ ?_
            refine wp_seq_k fun K24 hK24 => ?_
            refine r_list ?_
            refine wl rfl (ky (v := .int .i64 u36.1) hS (y_move hS rfl) rfl rfl fun a hS => ?_)
            refine wl rfl (ky (v := .int .i64 u36.1) hS (y_assign hS rfl) rfl rfl fun a hS => ?_)
            refine wpList_nil ?_
            try simp only [Exit.then, Exit.inBlock, ↓reduceIte, Nat.reduceEqDiff]
            refine hK24 _ _ ?_
            refine wp_ret ?_
            injection hM with hM
            subst hM
            try simp only [Exit.then, Exit.inBlock, ↓reduceIte, Nat.reduceEqDiff]
            refine ret_ok hS Tryd.results55 (res_tmp hS rfl res_nil) ?_
            exact rfl

noncomputable def key_Valid_j1 (g52 : Bool) : Option Bool := some (g52)
noncomputable def key_Valid_j2 (k_0 : KeyD) (alone40 : Bool) (k41 : Int) : Option Bool := (key_language k41).bind fun u53 => cond u53 (cond (decide (((k_0.Text.size : Int) : Int) ≤ 1073741824)) (cond (!(alone40)) (key_Valid_j1 true) (key_Valid_j1 (k_0.Text.toList == (ByteArray.mk #[]).toList))) (key_Valid_j1 false)) (key_Valid_j1 false)
noncomputable def key_Valid (k_0 : KeyD) : Option Bool := (key_toy k_0.Kind).bind fun u33 => cond u33 ((key_Number k_0).bind fun u36 => some (decide ((0 : Int) ≤ u36))) (cond ((k_0.Kind : Int) == 1) (key_Valid_j2 k_0 true k_0.Kind) (key_Valid_j2 k_0 ((k_0.Kind : Int) == 21) k_0.Kind))
set_option maxRecDepth 100000 in
set_option maxHeartbeats 4000000 in
theorem key_Valid_c (T : Nat → Prop) (W0 : World) (hT : ∀ k, T k → k < W0.heap.size) (hLv : LvP T W0) (k_0 : KeyD) (y : Bool) (hM : key_Valid k_0 = some y) : Rets Tryd.prog No 46 [.agg #[.int .i64 k_0.Kind, .string k_0.Text]] W0 (fun v w' => v = .bool y) := by
  refine enter (c := _) Tryd.func46 rfl T 36 Tryd.ntmps46 hT rfl fun a hS => ?_
  replace hS := hS.fact LvF (LvP.dn hLv)
  unfold key_Valid at hM
  refine wp_seq_k fun K5 hK5 => ?_
  refine r_list ?_
  refine wl rfl (k_box hS rfl (cs := [.int .i64 k_0.Kind, .string k_0.Text]) rfl rfl fun b30 hnb32 a w hk hS => ?_)
  refine wl rfl (ky (v := .bool false) hS (y_assign hS rfl) rfl rfl fun a hS => ?_)
  refine wpList_nil ?_
  try simp only [Exit.then, Exit.inBlock, ↓reduceIte, Nat.reduceEqDiff]
  refine hK5 _ _ ?_
  refine wp_seq_k fun K6 hK6 => ?_
  refine wp_seq_k fun K7 hK7 => ?_
  refine r_list ?_
  refine wl rfl (ky (v := .pointer (some ⟨b30, 0 + 0, none⟩)) hS (y_fld hS rfl fl28_0) rfl rfl fun a hS => ?_)
  refine wl rfl (ky (v := .int .i64 k_0.Kind) hS (y_load hS rfl ty3 0 rfl id (us := [.int .i64 k_0.Kind]) rfl rfl (fun _ => rfl)) rfl rfl fun a hS => ?_)
  obtain ⟨u33, hu33, hM⟩ := bd hM
  refine wl rfl (k_call hS ci62 rfl rfl (key_toy_c _ _ hS.dlt k_0.Kind _ hu33) fun _ w hR a hk hA => ?_)
  have he := Eq.symm hR
  subst he
  have hS := hA [] (fun r hr => by cases hr) List.Pairwise.nil
  refine wpList_nil ?_
  try simp only [Exit.then, Exit.inBlock, ↓reduceIte, Nat.reduceEqDiff]
  refine hK7 _ _ ?_
  rcases bool2 (u33) with hb35 | hb35
  · replace hM := ct hb35 hM
    refine c_t hS rfl hb35 ?_
    refine wp_seq_k fun K8 hK8 => ?_
    refine r_list ?_
    refine wl rfl (ky (v := .agg #[.int .i64 k_0.Kind, .string k_0.Text]) hS (y_load hS rfl ty28 0 rfl id (us := [.int .i64 k_0.Kind, .string k_0.Text]) rfl rfl (fun h => by cases h)) rfl rfl fun a hS => ?_)
    obtain ⟨u36, hu36, hM⟩ := bd hM
    refine wl rfl (k_call hS ci55 rfl rfl (key_Number_c _ _ hS.dlt (hS.get 0 rfl) k_0 _ hu36) fun _ w hR a hk hA => ?_)
    have he := Eq.symm hR
    subst he
    have hS := hA [] (fun r hr => by cases hr) List.Pairwise.nil
    refine wl rfl (ky (v := .bool (decide ((0 : Int) ≤ u36))) hS (y_int hS rfl rfl rfl) rfl rfl fun a hS => ?_)
    refine wl rfl (ky (v := .bool (decide ((0 : Int) ≤ u36))) hS (y_assign hS rfl) rfl rfl fun a hS => ?_)
    refine wpList_nil ?_
    try simp only [Exit.then, Exit.inBlock, ↓reduceIte, Nat.reduceEqDiff]
    refine hK8 _ _ ?_
    refine wp_ret ?_
    injection hM with hM
    subst hM
    try simp only [Exit.then, Exit.inBlock, ↓reduceIte, Nat.reduceEqDiff]
    refine ret_ok hS Tryd.results46 (res_tmp hS rfl res_nil) ?_
    exact rfl
  · replace hM := cf hb35 hM
    refine c_f hS rfl hb35 ?_
    refine wp_skip ?_
    try simp only [Exit.then, Exit.inBlock, ↓reduceIte, Nat.reduceEqDiff]
    refine hK6 _ _ ?_
    refine seq_j (J := fun a w => ∃ (alone40 : Bool) (k41 : Int), St W0 No T 36 [(1, .pointer (some ⟨b30, 0, none⟩)), (3, .bool alone40)] [.box b30 [.int .i64 k41, .string k_0.Text] 28] [LvF] a w ∧ key_Valid_j2 k_0 alone40 k41 = some y) ?_ ?_
    · skip
      refine r_list ?_
      refine wl rfl (ky (v := .pointer (some ⟨b30, 0 + 0, none⟩)) hS (y_fld hS rfl fl28_0) rfl rfl fun a hS => ?_)
      refine wl rfl (ky (v := .int .i64 k_0.Kind) hS (y_load hS rfl ty3 0 rfl id (us := [.int .i64 k_0.Kind]) rfl rfl (fun _ => rfl)) rfl rfl fun a hS => ?_)
      refine wl rfl (ky (v := .bool ((k_0.Kind : Int) == 1)) hS (y_int hS rfl rfl rfl) rfl rfl fun a hS => ?_)
      refine wl rfl (ky (v := .bool ((k_0.Kind : Int) == 1)) hS (y_move hS rfl) rfl rfl fun a hS => ?_)
      rcases bool2 ((k_0.Kind : Int) == 1) with hb58 | hb58
      · replace hM := ct hb58 hM
        refine wn hS rfl rfl rfl hb58 rfl rfl fun a hS => ?_
        refine wn hS rfl rfl rfl hb58 rfl rfl fun a hS => ?_
        refine wn hS rfl rfl rfl hb58 rfl rfl fun a hS => ?_
        refine wl rfl (ky (v := .bool true) hS (y_pickt hS rfl hb58 rfl) rfl rfl fun a hS => ?_)
        refine wl rfl (ky (v := .bool true) hS (y_assign hS rfl) rfl rfl fun a hS => ?_)
        refine wpList_nil ?_
        try simp only [Exit.then, Exit.inBlock, ↓reduceIte, Nat.reduceEqDiff]
        exact ⟨true, k_0.Kind, (hS.meet [0] (by decide) ⟨rfl, rfl, trivial⟩ ⟨rfl, trivial⟩ ⟨⟨0, rfl⟩, trivial⟩), hM⟩
      · replace hM := cf hb58 hM
        refine wg hS rfl rfl rfl hb58 (ky (v := .pointer (some ⟨b30, 0 + 0, none⟩)) hS (y_fld hS rfl fl28_0) rfl rfl fun a hS => ?_)
        refine wg hS rfl rfl rfl hb58 (ky (v := .int .i64 k_0.Kind) hS (y_load hS rfl ty3 0 rfl id (us := [.int .i64 k_0.Kind]) rfl rfl (fun _ => rfl)) rfl rfl fun a hS => ?_)
        refine wg hS rfl rfl rfl hb58 (ky (v := .bool ((k_0.Kind : Int) == 21)) hS (y_int hS rfl rfl rfl) rfl rfl fun a hS => ?_)
        refine wl rfl (ky (v := .bool ((k_0.Kind : Int) == 21)) hS (y_pickf hS rfl hb58 rfl) rfl rfl fun a hS => ?_)
        refine wl rfl (ky (v := .bool ((k_0.Kind : Int) == 21)) hS (y_assign hS rfl) rfl rfl fun a hS => ?_)
        refine wpList_nil ?_
        try simp only [Exit.then, Exit.inBlock, ↓reduceIte, Nat.reduceEqDiff]
        exact ⟨((k_0.Kind : Int) == 21), k_0.Kind, (hS.meet [0] (by decide) ⟨rfl, rfl, trivial⟩ ⟨rfl, trivial⟩ ⟨⟨0, rfl⟩, trivial⟩), hM⟩
    · rintro a w ⟨alone40, k41, hS, hM⟩
      unfold key_Valid_j2 at hM
      refine seq_j (J := fun a w => ∃ (g52 : Bool), St W0 No T 36 [(2, .bool g52)] [] [LvF] a w ∧ key_Valid_j1 g52 = some y) ?_ ?_
      · skip
        refine r_list ?_
        refine wl rfl (ky (v := .pointer (some ⟨b30, 0 + 0, none⟩)) hS (y_fld hS rfl fl28_0) rfl rfl fun a hS => ?_)
        refine wl rfl (ky (v := .int .i64 k41) hS (y_load hS rfl ty3 0 rfl id (us := [.int .i64 k41]) rfl rfl (fun _ => rfl)) rfl rfl fun a hS => ?_)
        obtain ⟨u53, hu53, hM⟩ := bd hM
        refine wl rfl (k_call hS ci63 rfl rfl (key_language_c _ _ hS.dlt k41 _ hu53) fun _ w hR a hk hA => ?_)
        have he := Eq.symm hR
        subst he
        have hS := hA [] (fun r hr => by cases hr) List.Pairwise.nil
        refine wl rfl (ky (v := .bool u53) hS (y_move hS rfl) rfl rfl fun a hS => ?_)
        rcases bool2 (u53) with hb55 | hb55
        · replace hM := ct hb55 hM
          refine wg hS rfl rfl rfl hb55 (ky (v := .pointer (some ⟨b30, 0 + 1, none⟩)) hS (y_fld hS rfl fl28_1) rfl rfl fun a hS => ?_)
          refine wg hS rfl rfl rfl hb55 (ky (v := .string k_0.Text) hS (y_load hS rfl ty9 0 rfl id (us := [.string k_0.Text]) rfl rfl (fun _ => rfl)) rfl rfl fun a hS => ?_)
          refine wg hS rfl rfl rfl hb55 (ky (v := .int .i64 (k_0.Text.size : Int)) hS (y_lens hS Tryd.underlying9 rfl) rfl rfl fun a hS => ?_)
          refine wg hS rfl rfl rfl hb55 (ky (v := .bool (decide (((k_0.Text.size : Int) : Int) ≤ 1073741824))) hS (y_int hS rfl rfl rfl) rfl rfl fun a hS => ?_)
          refine wl rfl (ky (v := .bool (decide (((k_0.Text.size : Int) : Int) ≤ 1073741824))) hS (y_pickt hS rfl hb55 rfl) rfl rfl fun a hS => ?_)
          refine wl rfl (ky (v := .bool (decide (((k_0.Text.size : Int) : Int) ≤ 1073741824))) hS (y_move hS rfl) rfl rfl fun a hS => ?_)
          rcases bool2 (decide (((k_0.Text.size : Int) : Int) ≤ 1073741824)) with hb56 | hb56
          · replace hM := ct hb56 hM
            refine wg hS rfl rfl rfl hb56 (ky (v := .bool alone40) hS (y_move hS rfl) rfl rfl fun a hS => ?_)
            refine wg hS rfl rfl rfl hb56 (ky (v := .bool (!(alone40))) hS (y_not hS rfl) rfl rfl fun a hS => ?_)
            refine wg hS rfl rfl rfl hb56 (ky (v := .bool (!(alone40))) hS (y_move hS rfl) rfl rfl fun a hS => ?_)
            rcases bool2 (!(alone40)) with hb57 | hb57
            · replace hM := ct hb57 hM
              refine wn hS rfl rfl rfl hb57 rfl rfl fun a hS => ?_
              refine wn hS rfl rfl rfl hb57 rfl rfl fun a hS => ?_
              refine wn hS rfl rfl rfl hb57 rfl rfl fun a hS => ?_
              refine wg hS rfl rfl rfl hb56 (ky (v := .bool true) hS (y_pickt hS rfl hb57 rfl) rfl rfl fun a hS => ?_)
              refine wl rfl (ky (v := .bool true) hS (y_pickt hS rfl hb56 rfl) rfl rfl fun a hS => ?_)
              refine wl rfl (ky (v := .bool true) hS (y_assign hS rfl) rfl rfl fun a hS => ?_)
              refine wpList_nil ?_
              try simp only [Exit.then, Exit.inBlock, ↓reduceIte, Nat.reduceEqDiff]
              exact ⟨true, (hS.meet [] (by decide) ⟨rfl, trivial⟩ trivial ⟨⟨0, rfl⟩, trivial⟩), hM⟩
            · replace hM := cf hb57 hM
              refine wg hS rfl rfl rfl hb57 (ky (v := .pointer (some ⟨b30, 0 + 1, none⟩)) hS (y_fld hS rfl fl28_1) rfl rfl fun a hS => ?_)
              refine wg hS rfl rfl rfl hb57 (ky (v := .string k_0.Text) hS (y_load hS rfl ty9 0 rfl id (us := [.string k_0.Text]) rfl rfl (fun _ => rfl)) rfl rfl fun a hS => ?_)
              refine wg hS rfl rfl rfl hb57 (ky (v := .bool (k_0.Text.toList == (ByteArray.mk #[]).toList)) hS (y_str hS rfl rfl rfl) rfl rfl fun a hS => ?_)
              refine wg hS rfl rfl rfl hb56 (ky (v := .bool (k_0.Text.toList == (ByteArray.mk #[]).toList)) hS (y_pickf hS rfl hb57 rfl) rfl rfl fun a hS => ?_)
              refine wl rfl (ky (v := .bool (k_0.Text.toList == (ByteArray.mk #[]).toList)) hS (y_pickt hS rfl hb56 rfl) rfl rfl fun a hS => ?_)
              refine wl rfl (ky (v := .bool (k_0.Text.toList == (ByteArray.mk #[]).toList)) hS (y_assign hS rfl) rfl rfl fun a hS => ?_)
              refine wpList_nil ?_
              try simp only [Exit.then, Exit.inBlock, ↓reduceIte, Nat.reduceEqDiff]
              exact ⟨(k_0.Text.toList == (ByteArray.mk #[]).toList), (hS.meet [] (by decide) ⟨rfl, trivial⟩ trivial ⟨⟨0, rfl⟩, trivial⟩), hM⟩
          · replace hM := cf hb56 hM
            refine wn hS rfl rfl rfl hb56 rfl rfl fun a hS => ?_
            refine wn hS rfl rfl rfl hb56 rfl rfl fun a hS => ?_
            refine wn hS rfl rfl rfl hb56 rfl rfl fun a hS => ?_
            refine wnu hS rfl rfl rfl rfl rfl fun a hS => ?_
            refine wnu hS rfl rfl rfl rfl rfl fun a hS => ?_
            refine wnu hS rfl rfl rfl rfl rfl fun a hS => ?_
            refine wn hS rfl rfl rfl hb56 rfl rfl fun a hS => ?_
            refine wl rfl (ky (v := .bool false) hS (y_pickf hS rfl hb56 rfl) rfl rfl fun a hS => ?_)
            refine wl rfl (ky (v := .bool false) hS (y_assign hS rfl) rfl rfl fun a hS => ?_)
            refine wpList_nil ?_
            try simp only [Exit.then, Exit.inBlock, ↓reduceIte, Nat.reduceEqDiff]
            exact ⟨false, (hS.meet [] (by decide) ⟨rfl, trivial⟩ trivial ⟨⟨0, rfl⟩, trivial⟩), hM⟩
        · replace hM := cf hb55 hM
          refine wn hS rfl rfl rfl hb55 rfl rfl fun a hS => ?_
          refine wn hS rfl rfl rfl hb55 rfl rfl fun a hS => ?_
          refine wn hS rfl rfl rfl hb55 rfl rfl fun a hS => ?_
          refine wn hS rfl rfl rfl hb55 rfl rfl fun a hS => ?_
          refine wl rfl (ky (v := .bool false) hS (y_pickf hS rfl hb55 rfl) rfl rfl fun a hS => ?_)
          refine wl rfl (ky (v := .bool false) hS (y_move hS rfl) rfl rfl fun a hS => ?_)
          refine wn hS rfl rfl rfl rfl rfl rfl fun a hS => ?_
          refine wn hS rfl rfl rfl rfl rfl rfl fun a hS => ?_
          refine wn hS rfl rfl rfl rfl rfl rfl fun a hS => ?_
          refine wnu hS rfl rfl rfl rfl rfl fun a hS => ?_
          refine wnu hS rfl rfl rfl rfl rfl fun a hS => ?_
          refine wnu hS rfl rfl rfl rfl rfl fun a hS => ?_
          refine wn hS rfl rfl rfl rfl rfl rfl fun a hS => ?_
          refine wl rfl (ky (v := .bool false) hS (y_pickf hS rfl rfl rfl) rfl rfl fun a hS => ?_)
          refine wl rfl (ky (v := .bool false) hS (y_assign hS rfl) rfl rfl fun a hS => ?_)
          refine wpList_nil ?_
          try simp only [Exit.then, Exit.inBlock, ↓reduceIte, Nat.reduceEqDiff]
          exact ⟨false, (hS.meet [] (by decide) ⟨rfl, trivial⟩ trivial ⟨⟨0, rfl⟩, trivial⟩), hM⟩
      · rintro a w ⟨g52, hS, hM⟩
        unfold key_Valid_j1 at hM
        refine wp_ret ?_
        injection hM with hM
        subst hM
        try simp only [Exit.then, Exit.inBlock, ↓reduceIte, Nat.reduceEqDiff]
        refine ret_ok hS Tryd.results46 (res_tmp hS rfl res_nil) ?_
        exact rfl

noncomputable def ref23_Cell (n_0 : Int) : Option KeyD := cond (decide ((n_0 : Int) < 0)) (some ((KeyD.mk 0 (ByteArray.mk #[])))) (cond (decide ((99 : Int) < n_0)) (some ((KeyD.mk 0 (ByteArray.mk #[])))) ((itoaM n_0).bind fun u15 => some ((KeyD.mk 30 u15))))
set_option maxRecDepth 100000 in
set_option maxHeartbeats 4000000 in
theorem ref23_Cell_c (T : Nat → Prop) (W0 : World) (hT : ∀ k, T k → k < W0.heap.size) (hLv : LvP T W0) (n_0 : Int) (y : KeyD) (hM : ref23_Cell n_0 = some y) : Rets Tryd.prog No 16 [.int .i64 n_0] W0 (fun v w' => v = .agg #[.int .i64 y.Kind, .string y.Text]) := by
  refine enter (c := _) Tryd.func16 rfl T 13 Tryd.ntmps16 hT rfl fun a hS => ?_
  replace hS := hS.fact LvF (LvP.dn hLv)
  unfold ref23_Cell at hM
  refine wp_seq_k fun K7 hK7 => ?_
  refine r_list ?_
  refine wl rfl (k_alloc hS ze28 rfl fun b9 hnb11 a w hk hS => ?_)
  refine wpList_nil ?_
  try simp only [Exit.then, Exit.inBlock, ↓reduceIte, Nat.reduceEqDiff]
  refine hK7 _ _ ?_
  refine wp_seq_k fun K8 hK8 => ?_
  refine wp_seq_k fun K9 hK9 => ?_
  refine r_list ?_
  refine wl rfl (ky (v := .int .i64 n_0) hS (y_move hS rfl) rfl rfl fun a hS => ?_)
  refine wl rfl (ky (v := .bool (decide ((n_0 : Int) < 0))) hS (y_int hS rfl rfl rfl) rfl rfl fun a hS => ?_)
  refine wl rfl (ky (v := .bool (decide ((n_0 : Int) < 0))) hS (y_move hS rfl) rfl rfl fun a hS => ?_)
  rcases bool2 (decide ((n_0 : Int) < 0)) with hb13 | hb13
  · replace hM := ct hb13 hM
    refine wn hS rfl rfl rfl hb13 rfl rfl fun a hS => ?_
    refine wn hS rfl rfl rfl hb13 rfl rfl fun a hS => ?_
    refine wl rfl (ky (v := .bool true) hS (y_pickt hS rfl hb13 rfl) rfl rfl fun a hS => ?_)
    refine wpList_nil ?_
    try simp only [Exit.then, Exit.inBlock, ↓reduceIte, Nat.reduceEqDiff]
    refine hK9 _ _ ?_
    refine c_t hS rfl rfl ?_
    refine wp_seq_k fun K10 hK10 => ?_
    refine r_list ?_
    refine wl rfl (ky (v := .agg #[.int .i64 0, .string (ByteArray.mk #[])]) hS (y_build (ps := []) hS pl28 ze28 rfl (us := []) trivial (ws := [.int .i64 0, .string (ByteArray.mk #[])]) rfl) rfl rfl fun a hS => ?_)
    refine wl rfl (k_store hS rfl rfl (us := [.int .i64 0, .string (ByteArray.mk #[])]) rfl ty28 0 rfl rfl rfl (oc rfl (oc rfl on)) fun w hk hS => ?_)
    refine wpList_nil ?_
    try simp only [Exit.then, Exit.inBlock, ↓reduceIte, Nat.reduceEqDiff]
    refine hK10 _ _ ?_
    refine wp_ret ?_
    injection hM with hM
    subst hM
    try simp only [Exit.then, Exit.inBlock, ↓reduceIte, Nat.reduceEqDiff]
    refine ret_ok hS Tryd.results16 (res_cell hS rfl 0 rfl ty28 rfl (fun h => by cases h) res_nil) ?_
    exact rfl
  · replace hM := cf hb13 hM
    refine wg hS rfl rfl rfl hb13 (ky (v := .int .i64 n_0) hS (y_move hS rfl) rfl rfl fun a hS => ?_)
    refine wg hS rfl rfl rfl hb13 (ky (v := .bool (decide ((99 : Int) < n_0))) hS (y_int hS rfl rfl rfl) rfl rfl fun a hS => ?_)
    refine wl rfl (ky (v := .bool (decide ((99 : Int) < n_0))) hS (y_pickf hS rfl hb13 rfl) rfl rfl fun a hS => ?_)
    refine wpList_nil ?_
    try simp only [Exit.then, Exit.inBlock, ↓reduceIte, Nat.reduceEqDiff]
    refine hK9 _ _ ?_
    rcases bool2 (decide ((99 : Int) < n_0)) with hb14 | hb14
    · replace hM := ct hb14 hM
      refine c_t hS rfl hb14 ?_
      refine wp_seq_k fun K11 hK11 => ?_
      refine r_list ?_
      refine wl rfl (ky (v := .agg #[.int .i64 0, .string (ByteArray.mk #[])]) hS (y_build (ps := []) hS pl28 ze28 rfl (us := []) trivial (ws := [.int .i64 0, .string (ByteArray.mk #[])]) rfl) rfl rfl fun a hS => ?_)
      refine wl rfl (k_store hS rfl rfl (us := [.int .i64 0, .string (ByteArray.mk #[])]) rfl ty28 0 rfl rfl rfl (oc rfl (oc rfl on)) fun w hk hS => ?_)
      refine wpList_nil ?_
      try simp only [Exit.then, Exit.inBlock, ↓reduceIte, Nat.reduceEqDiff]
      refine hK11 _ _ ?_
      refine wp_ret ?_
      injection hM with hM
      subst hM
      try simp only [Exit.then, Exit.inBlock, ↓reduceIte, Nat.reduceEqDiff]
      refine ret_ok hS Tryd.results16 (res_cell hS rfl 0 rfl ty28 rfl (fun h => by cases h) res_nil) ?_
      exact rfl
    · replace hM := cf hb14 hM
      refine c_f hS rfl hb14 ?_
      refine wp_skip ?_
      try simp only [Exit.then, Exit.inBlock, ↓reduceIte, Nat.reduceEqDiff]
      refine hK8 _ _ ?_
      refine wp_seq_k fun K12 hK12 => ?_
      refine r_list ?_
      refine wl rfl (ky (v := .int .i64 n_0) hS (y_move hS rfl) rfl rfl fun a hS => ?_)
      obtain ⟨u15, hu15, hM⟩ := bd hM
      refine wl rfl (k_call hS ci36 rfl rfl (itoaM_c _ _ hS.dlt (hS.get 0 rfl) n_0 _ hu15) fun _ w hR a hk hA => ?_)
      have he := Eq.symm hR
      subst he
      have hS := hA [] (fun r hr => by cases hr) List.Pairwise.nil
      refine wl rfl (ky (v := .agg #[.int .i64 30, .string u15]) hS (y_build (ps := [(0, .const (.int .i64 30)), (1, .tmp 11)]) hS pl28 ze28 rfl (us := [[.int .i64 30], [.string u15]]) ⟨rfl, ⟨rfl, trivial⟩⟩ (ws := [.int .i64 30, .string u15]) rfl) rfl rfl fun a hS => ?_)
      refine wl rfl (k_store hS rfl rfl (us := [.int .i64 30, .string u15]) rfl ty28 0 rfl rfl rfl (oc rfl (oc rfl on)) fun w hk hS => ?_)
      refine wpList_nil ?_
      try simp only [Exit.then, Exit.inBlock, ↓reduceIte, Nat.reduceEqDiff]
      refine hK12 _ _ ?_
      refine wp_ret ?_
      injection hM with hM
      subst hM
      try simp only [Exit.then, Exit.inBlock, ↓reduceIte, Nat.reduceEqDiff]
      refine ret_ok hS Tryd.results16 (res_cell hS rfl 0 rfl ty28 rfl (fun h => by cases h) res_nil) ?_
      exact rfl

noncomputable def key_Cell (n_0 : Int) : Option KeyD := cond (decide ((n_0 : Int) < 0)) (some ((KeyD.mk 0 (ByteArray.mk #[])))) (cond (decide ((99 : Int) < n_0)) (some ((KeyD.mk 0 (ByteArray.mk #[])))) ((itoaM n_0).bind fun u15 => some ((KeyD.mk 30 u15))))
set_option maxRecDepth 100000 in
set_option maxHeartbeats 4000000 in
theorem key_Cell_c (T : Nat → Prop) (W0 : World) (hT : ∀ k, T k → k < W0.heap.size) (hLv : LvP T W0) (n_0 : Int) (y : KeyD) (hM : key_Cell n_0 = some y) : Rets Tryd.prog No 57 [.int .i64 n_0] W0 (fun v w' => v = .agg #[.int .i64 y.Kind, .string y.Text]) := by
  refine enter (c := _) Tryd.func57 rfl T 13 Tryd.ntmps57 hT rfl fun a hS => ?_
  replace hS := hS.fact LvF (LvP.dn hLv)
  unfold key_Cell at hM
  refine wp_seq_k fun K7 hK7 => ?_
  refine r_list ?_
  refine wl rfl (k_alloc hS ze28 rfl fun b9 hnb11 a w hk hS => ?_)
  refine wpList_nil ?_
  try simp only [Exit.then, Exit.inBlock, ↓reduceIte, Nat.reduceEqDiff]
  refine hK7 _ _ ?_
  refine wp_seq_k fun K8 hK8 => ?_
  refine wp_seq_k fun K9 hK9 => ?_
  refine r_list ?_
  refine wl rfl (ky (v := .int .i64 n_0) hS (y_move hS rfl) rfl rfl fun a hS => ?_)
  refine wl rfl (ky (v := .bool (decide ((n_0 : Int) < 0))) hS (y_int hS rfl rfl rfl) rfl rfl fun a hS => ?_)
  refine wl rfl (ky (v := .bool (decide ((n_0 : Int) < 0))) hS (y_move hS rfl) rfl rfl fun a hS => ?_)
  rcases bool2 (decide ((n_0 : Int) < 0)) with hb13 | hb13
  · replace hM := ct hb13 hM
    refine wn hS rfl rfl rfl hb13 rfl rfl fun a hS => ?_
    refine wn hS rfl rfl rfl hb13 rfl rfl fun a hS => ?_
    refine wl rfl (ky (v := .bool true) hS (y_pickt hS rfl hb13 rfl) rfl rfl fun a hS => ?_)
    refine wpList_nil ?_
    try simp only [Exit.then, Exit.inBlock, ↓reduceIte, Nat.reduceEqDiff]
    refine hK9 _ _ ?_
    refine c_t hS rfl rfl ?_
    refine wp_seq_k fun K10 hK10 => ?_
    refine r_list ?_
    refine wl rfl (ky (v := .agg #[.int .i64 0, .string (ByteArray.mk #[])]) hS (y_build (ps := []) hS pl28 ze28 rfl (us := []) trivial (ws := [.int .i64 0, .string (ByteArray.mk #[])]) rfl) rfl rfl fun a hS => ?_)
    refine wl rfl (k_store hS rfl rfl (us := [.int .i64 0, .string (ByteArray.mk #[])]) rfl ty28 0 rfl rfl rfl (oc rfl (oc rfl on)) fun w hk hS => ?_)
    refine wpList_nil ?_
    try simp only [Exit.then, Exit.inBlock, ↓reduceIte, Nat.reduceEqDiff]
    refine hK10 _ _ ?_
    refine wp_ret ?_
    injection hM with hM
    subst hM
    try simp only [Exit.then, Exit.inBlock, ↓reduceIte, Nat.reduceEqDiff]
    refine ret_ok hS Tryd.results57 (res_cell hS rfl 0 rfl ty28 rfl (fun h => by cases h) res_nil) ?_
    exact rfl
  · replace hM := cf hb13 hM
    refine wg hS rfl rfl rfl hb13 (ky (v := .int .i64 n_0) hS (y_move hS rfl) rfl rfl fun a hS => ?_)
    refine wg hS rfl rfl rfl hb13 (ky (v := .bool (decide ((99 : Int) < n_0))) hS (y_int hS rfl rfl rfl) rfl rfl fun a hS => ?_)
    refine wl rfl (ky (v := .bool (decide ((99 : Int) < n_0))) hS (y_pickf hS rfl hb13 rfl) rfl rfl fun a hS => ?_)
    refine wpList_nil ?_
    try simp only [Exit.then, Exit.inBlock, ↓reduceIte, Nat.reduceEqDiff]
    refine hK9 _ _ ?_
    rcases bool2 (decide ((99 : Int) < n_0)) with hb14 | hb14
    · replace hM := ct hb14 hM
      refine c_t hS rfl hb14 ?_
      refine wp_seq_k fun K11 hK11 => ?_
      refine r_list ?_
      refine wl rfl (ky (v := .agg #[.int .i64 0, .string (ByteArray.mk #[])]) hS (y_build (ps := []) hS pl28 ze28 rfl (us := []) trivial (ws := [.int .i64 0, .string (ByteArray.mk #[])]) rfl) rfl rfl fun a hS => ?_)
      refine wl rfl (k_store hS rfl rfl (us := [.int .i64 0, .string (ByteArray.mk #[])]) rfl ty28 0 rfl rfl rfl (oc rfl (oc rfl on)) fun w hk hS => ?_)
      refine wpList_nil ?_
      try simp only [Exit.then, Exit.inBlock, ↓reduceIte, Nat.reduceEqDiff]
      refine hK11 _ _ ?_
      refine wp_ret ?_
      injection hM with hM
      subst hM
      try simp only [Exit.then, Exit.inBlock, ↓reduceIte, Nat.reduceEqDiff]
      refine ret_ok hS Tryd.results57 (res_cell hS rfl 0 rfl ty28 rfl (fun h => by cases h) res_nil) ?_
      exact rfl
    · replace hM := cf hb14 hM
      refine c_f hS rfl hb14 ?_
      refine wp_skip ?_
      try simp only [Exit.then, Exit.inBlock, ↓reduceIte, Nat.reduceEqDiff]
      refine hK8 _ _ ?_
      refine wp_seq_k fun K12 hK12 => ?_
      refine r_list ?_
      refine wl rfl (ky (v := .int .i64 n_0) hS (y_move hS rfl) rfl rfl fun a hS => ?_)
      obtain ⟨u15, hu15, hM⟩ := bd hM
      refine wl rfl (k_call hS ci36 rfl rfl (itoaM_c _ _ hS.dlt (hS.get 0 rfl) n_0 _ hu15) fun _ w hR a hk hA => ?_)
      have he := Eq.symm hR
      subst he
      have hS := hA [] (fun r hr => by cases hr) List.Pairwise.nil
      refine wl rfl (ky (v := .agg #[.int .i64 30, .string u15]) hS (y_build (ps := [(0, .const (.int .i64 30)), (1, .tmp 11)]) hS pl28 ze28 rfl (us := [[.int .i64 30], [.string u15]]) ⟨rfl, ⟨rfl, trivial⟩⟩ (ws := [.int .i64 30, .string u15]) rfl) rfl rfl fun a hS => ?_)
      refine wl rfl (k_store hS rfl rfl (us := [.int .i64 30, .string u15]) rfl ty28 0 rfl rfl rfl (oc rfl (oc rfl on)) fun w hk hS => ?_)
      refine wpList_nil ?_
      try simp only [Exit.then, Exit.inBlock, ↓reduceIte, Nat.reduceEqDiff]
      refine hK12 _ _ ?_
      refine wp_ret ?_
      injection hM with hM
      subst hM
      try simp only [Exit.then, Exit.inBlock, ↓reduceIte, Nat.reduceEqDiff]
      refine ret_ok hS Tryd.results57 (res_cell hS rfl 0 rfl ty28 rfl (fun h => by cases h) res_nil) ?_
      exact rfl

noncomputable def ref23_Of_j1 (u40 : ByteArray) (g53 : Int) (k54 : Int) : Option KeyD := some ((KeyD.mk k54 u40))
noncomputable def ref23_Of (rules_ : (List RuleD)) (n_1 : Int) : Option KeyD := cond (decide ((n_1 : Int) < 0)) (some ((KeyD.mk 0 (ByteArray.mk #[])))) (cond (decide (((rules_.length : Int) : Int) ≤ n_1)) (some ((KeyD.mk 0 (ByteArray.mk #[])))) (cond (decide ((99 : Int) < n_1)) (some ((KeyD.mk 0 (ByteArray.mk #[])))) ((itoaM n_1).bind fun u40 => (getI rules_ n_1).bind fun e55 => cond e55.Ring (ref23_Of_j1 u40 0 32) (ref23_Of_j1 u40 0 31))))
set_option maxRecDepth 100000 in
set_option maxHeartbeats 4000000 in
theorem ref23_Of_c (T : Nat → Prop) (W0 : World) (hT : ∀ k, T k → k < W0.heap.size) (hLv : LvP T W0) (rules_ : (List RuleD)) (n_1 : Int) (v1 : Value) (hv1 : SlR R_RuleD T W0 v1 rules_) (y : KeyD) (hM : ref23_Of rules_ n_1 = some y) : Rets Tryd.prog No 35 [v1, .int .i64 n_1] W0 (fun v w' => v = .agg #[.int .i64 y.Kind, .string y.Text]) := by
  refine enter (c := _) Tryd.func35 rfl T 29 Tryd.ntmps35 hT rfl fun a hS => ?_
  replace hS := hS.fact LvF (LvP.dn hLv)
  replace hS := hS.fact (SlF R_RuleD v1 rules_) (SlR.dn hv1)
  unfold ref23_Of at hM
  refine wp_seq_k fun K11 hK11 => ?_
  refine r_list ?_
  refine wl rfl (k_alloc hS ze28 rfl fun b32 hnb34 a w hk hS => ?_)
  refine wpList_nil ?_
  try simp only [Exit.then, Exit.inBlock, ↓reduceIte, Nat.reduceEqDiff]
  refine hK11 _ _ ?_
  refine wp_seq_k fun K12 hK12 => ?_
  refine wp_seq_k fun K13 hK13 => ?_
  refine r_list ?_
  refine wl rfl (ky (v := .int .i64 n_1) hS (y_move hS rfl) rfl rfl fun a hS => ?_)
  refine wl rfl (ky (v := .bool (decide ((n_1 : Int) < 0))) hS (y_int hS rfl rfl rfl) rfl rfl fun a hS => ?_)
  refine wl rfl (ky (v := .bool (decide ((n_1 : Int) < 0))) hS (y_move hS rfl) rfl rfl fun a hS => ?_)
  rcases bool2 (decide ((n_1 : Int) < 0)) with hb37 | hb37
  · replace hM := ct hb37 hM
    refine wn hS rfl rfl rfl hb37 rfl rfl fun a hS => ?_
    refine wn hS rfl rfl rfl hb37 rfl rfl fun a hS => ?_
    refine wn hS rfl rfl rfl hb37 rfl rfl fun a hS => ?_
    refine wn hS rfl rfl rfl hb37 rfl rfl fun a hS => ?_
    refine wl rfl (ky (v := .bool true) hS (y_pickt hS rfl hb37 rfl) rfl rfl fun a hS => ?_)
    refine wl rfl (ky (v := .bool true) hS (y_move hS rfl) rfl rfl fun a hS => ?_)
    refine wn hS rfl rfl rfl rfl rfl rfl fun a hS => ?_
    refine wn hS rfl rfl rfl rfl rfl rfl fun a hS => ?_
    refine wl rfl (ky (v := .bool true) hS (y_pickt hS rfl rfl rfl) rfl rfl fun a hS => ?_)
    refine wpList_nil ?_
    try simp only [Exit.then, Exit.inBlock, ↓reduceIte, Nat.reduceEqDiff]
    refine hK13 _ _ ?_
    refine c_t hS rfl rfl ?_
    refine wp_seq_k fun K14 hK14 => ?_
    refine r_list ?_
    refine wl rfl (ky (v := .agg #[.int .i64 0, .string (ByteArray.mk #[])]) hS (y_build (ps := []) hS pl28 ze28 rfl (us := []) trivial (ws := [.int .i64 0, .string (ByteArray.mk #[])]) rfl) rfl rfl fun a hS => ?_)
    refine wl rfl (k_store hS rfl rfl (us := [.int .i64 0, .string (ByteArray.mk #[])]) rfl ty28 0 rfl rfl rfl (oc rfl (oc rfl on)) fun w hk hS => ?_)
    refine wpList_nil ?_
    try simp only [Exit.then, Exit.inBlock, ↓reduceIte, Nat.reduceEqDiff]
    refine hK14 _ _ ?_
    refine wp_ret ?_
    injection hM with hM
    subst hM
    try simp only [Exit.then, Exit.inBlock, ↓reduceIte, Nat.reduceEqDiff]
    refine ret_ok hS Tryd.results35 (res_cell hS rfl 0 rfl ty28 rfl (fun h => by cases h) res_nil) ?_
    exact rfl
  · replace hM := cf hb37 hM
    refine wg hS rfl rfl rfl hb37 (ky (v := .int .i64 n_1) hS (y_move hS rfl) rfl rfl fun a hS => ?_)
    refine wg hS rfl rfl rfl hb37 (ky (v := v1) hS (y_move hS rfl) rfl rfl fun a hS => ?_)
    refine wg hS rfl rfl rfl hb37 (ky (v := .int .i64 (rules_.length : Int)) hS (y_len (R := R_RuleD) (xs := rules_) hS sl49 rfl 0 rfl) rfl rfl fun a hS => ?_)
    refine wg hS rfl rfl rfl hb37 (ky (v := .bool (decide (((rules_.length : Int) : Int) ≤ n_1))) hS (y_int hS rfl rfl rfl) rfl rfl fun a hS => ?_)
    refine wl rfl (ky (v := .bool (decide (((rules_.length : Int) : Int) ≤ n_1))) hS (y_pickf hS rfl hb37 rfl) rfl rfl fun a hS => ?_)
    refine wl rfl (ky (v := .bool (decide (((rules_.length : Int) : Int) ≤ n_1))) hS (y_move hS rfl) rfl rfl fun a hS => ?_)
    rcases bool2 (decide (((rules_.length : Int) : Int) ≤ n_1)) with hb38 | hb38
    · replace hM := ct hb38 hM
      refine wn hS rfl rfl rfl hb38 rfl rfl fun a hS => ?_
      refine wn hS rfl rfl rfl hb38 rfl rfl fun a hS => ?_
      refine wl rfl (ky (v := .bool true) hS (y_pickt hS rfl hb38 rfl) rfl rfl fun a hS => ?_)
      refine wpList_nil ?_
      try simp only [Exit.then, Exit.inBlock, ↓reduceIte, Nat.reduceEqDiff]
      refine hK13 _ _ ?_
      refine c_t hS rfl rfl ?_
      refine wp_seq_k fun K15 hK15 => ?_
      refine r_list ?_
      refine wl rfl (ky (v := .agg #[.int .i64 0, .string (ByteArray.mk #[])]) hS (y_build (ps := []) hS pl28 ze28 rfl (us := []) trivial (ws := [.int .i64 0, .string (ByteArray.mk #[])]) rfl) rfl rfl fun a hS => ?_)
      refine wl rfl (k_store hS rfl rfl (us := [.int .i64 0, .string (ByteArray.mk #[])]) rfl ty28 0 rfl rfl rfl (oc rfl (oc rfl on)) fun w hk hS => ?_)
      refine wpList_nil ?_
      try simp only [Exit.then, Exit.inBlock, ↓reduceIte, Nat.reduceEqDiff]
      refine hK15 _ _ ?_
      refine wp_ret ?_
      injection hM with hM
      subst hM
      try simp only [Exit.then, Exit.inBlock, ↓reduceIte, Nat.reduceEqDiff]
      refine ret_ok hS Tryd.results35 (res_cell hS rfl 0 rfl ty28 rfl (fun h => by cases h) res_nil) ?_
      exact rfl
    · replace hM := cf hb38 hM
      refine wg hS rfl rfl rfl hb38 (ky (v := .int .i64 n_1) hS (y_move hS rfl) rfl rfl fun a hS => ?_)
      refine wg hS rfl rfl rfl hb38 (ky (v := .bool (decide ((99 : Int) < n_1))) hS (y_int hS rfl rfl rfl) rfl rfl fun a hS => ?_)
      refine wl rfl (ky (v := .bool (decide ((99 : Int) < n_1))) hS (y_pickf hS rfl hb38 rfl) rfl rfl fun a hS => ?_)
      refine wpList_nil ?_
      try simp only [Exit.then, Exit.inBlock, ↓reduceIte, Nat.reduceEqDiff]
      refine hK13 _ _ ?_
      rcases bool2 (decide ((99 : Int) < n_1)) with hb39 | hb39
      · replace hM := ct hb39 hM
        refine c_t hS rfl hb39 ?_
        refine wp_seq_k fun K16 hK16 => ?_
        refine r_list ?_
        refine wl rfl (ky (v := .agg #[.int .i64 0, .string (ByteArray.mk #[])]) hS (y_build (ps := []) hS pl28 ze28 rfl (us := []) trivial (ws := [.int .i64 0, .string (ByteArray.mk #[])]) rfl) rfl rfl fun a hS => ?_)
        refine wl rfl (k_store hS rfl rfl (us := [.int .i64 0, .string (ByteArray.mk #[])]) rfl ty28 0 rfl rfl rfl (oc rfl (oc rfl on)) fun w hk hS => ?_)
        refine wpList_nil ?_
        try simp only [Exit.then, Exit.inBlock, ↓reduceIte, Nat.reduceEqDiff]
        refine hK16 _ _ ?_
        refine wp_ret ?_
        injection hM with hM
        subst hM
        try simp only [Exit.then, Exit.inBlock, ↓reduceIte, Nat.reduceEqDiff]
        refine ret_ok hS Tryd.results35 (res_cell hS rfl 0 rfl ty28 rfl (fun h => by cases h) res_nil) ?_
        exact rfl
      · replace hM := cf hb39 hM
        refine c_f hS rfl hb39 ?_
        refine wp_skip ?_
        try simp only [Exit.then, Exit.inBlock, ↓reduceIte, Nat.reduceEqDiff]
        refine hK12 _ _ ?_
        refine wp_seq_k fun K17 hK17 => ?_
        refine r_list ?_
        refine wl rfl (ky (v := .int .i64 n_1) hS (y_move hS rfl) rfl rfl fun a hS => ?_)
        obtain ⟨u40, hu40, hM⟩ := bd hM
        refine wl rfl (k_call hS ci36 rfl rfl (itoaM_c _ _ hS.dlt (hS.get 1 rfl) n_1 _ hu40) fun _ w hR a hk hA => ?_)
        have he := Eq.symm hR
        subst he
        have hS := hA [] (fun r hr => by cases hr) List.Pairwise.nil
        refine wl rfl (ky (v := .agg #[.int .i64 31, .string u40]) hS (y_build (ps := [(0, .const (.int .i64 31)), (1, .tmp 20)]) hS pl28 ze28 rfl (us := [[.int .i64 31], [.string u40]]) ⟨rfl, ⟨rfl, trivial⟩⟩ (ws := [.int .i64 31, .string u40]) rfl) rfl rfl fun a hS => ?_)
        refine wl rfl (k_alloc hS ze28 rfl fun b42 hnb44 a w hk hS => ?_)
        refine wl rfl (k_store hS rfl rfl (us := [.int .i64 31, .string u40]) rfl ty28 0 rfl rfl rfl (oc rfl (oc rfl on)) fun w hk hS => ?_)
        refine wpList_nil ?_
        try simp only [Exit.then, Exit.inBlock, ↓reduceIte, Nat.reduceEqDiff]
        refine hK17 _ _ ?_
        refine seq_j (J := fun a w => ∃ (g53 : Int) (k54 : Int), St W0 No T 29 [(4, .pointer (some ⟨b32, 0, none⟩)), (5, .pointer (some ⟨b42, 0, none⟩))] [.box b32 [.int .i64 g53, .string (ByteArray.mk #[])] 28, .box b42 [.int .i64 k54, .string u40] 28] [LvF] a w ∧ ref23_Of_j1 u40 g53 k54 = some y) ?_ ?_
        · skip
          refine wp_seq_k fun K20 hK20 => ?_
          refine r_list ?_
          refine wl rfl (ky (v := v1) hS (y_move hS rfl) rfl rfl fun a hS => ?_)
          refine wl rfl (ky (v := .int .i64 n_1) hS (y_move hS rfl) rfl rfl fun a hS => ?_)
          obtain ⟨e55, he55, hM⟩ := bd hM
          refine wl rfl (k_index (R := R_RuleD) hS sl49 ty53 rfl rfl 0 rfl he55 rfl fun b57 o58 cs60 hr59 a hS => ?_)
          obtain ⟨v56, rfl, hv56⟩ := hr59
          replace hS := hS.fact (SlF R_AskD v56 e55.Asks) hv56
          refine wl rfl (ky (v := .pointer (some ⟨b57, o58 + 0, none⟩)) hS (y_fld hS rfl fl53_0) rfl rfl fun a hS => ?_)
          refine wl rfl (ky (v := .bool e55.Ring) hS (y_loadc (k := 0) hS ty4 1 rfl rfl (fun _ h => h.elim) (us := [.bool e55.Ring]) rfl rfl (fun _ => rfl)) rfl rfl fun a hS => ?_)
          refine wpList_nil ?_
          try simp only [Exit.then, Exit.inBlock, ↓reduceIte, Nat.reduceEqDiff]
          refine hK20 _ _ ?_
          rcases bool2 (e55.Ring) with hb62 | hb62
          · replace hM := ct hb62 hM
            refine c_t hS rfl hb62 ?_
            refine r_list ?_
            refine wl rfl (ky (v := .pointer (some ⟨b42, 0 + 0, none⟩)) hS (y_fld hS rfl fl28_0) rfl rfl fun a hS => ?_)
            refine wl rfl (k_store hS rfl rfl (us := [.int .i64 32]) rfl ty3 0 rfl rfl rfl (oc rfl on) fun w hk hS => ?_)
            refine wpList_nil ?_
            try simp only [Exit.then, Exit.inBlock, ↓reduceIte, Nat.reduceEqDiff]
            exact ⟨0, 32, (hS.meet [1, 0] (by decide) ⟨rfl, rfl, trivial⟩ ⟨rfl, rfl, trivial⟩ ⟨⟨3, rfl⟩, trivial⟩), hM⟩
          · replace hM := cf hb62 hM
            refine c_f hS rfl hb62 ?_
            refine wp_skip ?_
            try simp only [Exit.then, Exit.inBlock, ↓reduceIte, Nat.reduceEqDiff]
            exact ⟨0, 31, (hS.meet [1, 0] (by decide) ⟨rfl, rfl, trivial⟩ ⟨rfl, rfl, trivial⟩ ⟨⟨3, rfl⟩, trivial⟩), hM⟩
        · rintro a w ⟨g53, k54, hS, hM⟩
          unfold ref23_Of_j1 at hM
          refine wp_seq_k fun K19 hK19 => ?_
          refine r_list ?_
          refine wl rfl (ky (v := .agg #[.int .i64 k54, .string u40]) hS (y_load hS rfl ty28 1 rfl id (us := [.int .i64 k54, .string u40]) rfl rfl (fun h => by cases h)) rfl rfl fun a hS => ?_)
          refine wl rfl (k_store hS rfl rfl (us := [.int .i64 k54, .string u40]) rfl ty28 0 rfl rfl rfl (oc rfl (oc rfl on)) fun w hk hS => ?_)
          refine wpList_nil ?_
          try simp only [Exit.then, Exit.inBlock, ↓reduceIte, Nat.reduceEqDiff]
          refine hK19 _ _ ?_
          refine wp_ret ?_
          injection hM with hM
          subst hM
          try simp only [Exit.then, Exit.inBlock, ↓reduceIte, Nat.reduceEqDiff]
          refine ret_ok hS Tryd.results35 (res_cell hS rfl 0 rfl ty28 rfl (fun h => by cases h) res_nil) ?_
          exact rfl

noncomputable def key_Of_j1 (n46 : Int) (kind47 : Int) (g48 : Int) : Option KeyD := (itoaM n46).bind fun u49 => some ((KeyD.mk kind47 u49))
noncomputable def key_Of (rules_ : (List RuleD)) (n_1 : Int) : Option KeyD := cond (decide ((n_1 : Int) < 0)) (some ((KeyD.mk 0 (ByteArray.mk #[])))) (cond (decide (((rules_.length : Int) : Int) ≤ n_1)) (some ((KeyD.mk 0 (ByteArray.mk #[])))) (cond (decide ((99 : Int) < n_1)) (some ((KeyD.mk 0 (ByteArray.mk #[])))) ((getI rules_ n_1).bind fun e51 => cond e51.Ring (key_Of_j1 n_1 32 0) (key_Of_j1 n_1 31 0))))
set_option maxRecDepth 100000 in
set_option maxHeartbeats 4000000 in
theorem key_Of_c (T : Nat → Prop) (W0 : World) (hT : ∀ k, T k → k < W0.heap.size) (hLv : LvP T W0) (rules_ : (List RuleD)) (n_1 : Int) (v1 : Value) (hv1 : SlR R_RuleD T W0 v1 rules_) (y : KeyD) (hM : key_Of rules_ n_1 = some y) : Rets Tryd.prog No 56 [v1, .int .i64 n_1] W0 (fun v w' => v = .agg #[.int .i64 y.Kind, .string y.Text]) := by
  refine enter (c := _) Tryd.func56 rfl T 28 Tryd.ntmps56 hT rfl fun a hS => ?_
  replace hS := hS.fact LvF (LvP.dn hLv)
  replace hS := hS.fact (SlF R_RuleD v1 rules_) (SlR.dn hv1)
  unfold key_Of at hM
  refine wp_seq_k fun K11 hK11 => ?_
  refine r_list ?_
  refine wl rfl (k_alloc hS ze28 rfl fun b30 hnb32 a w hk hS => ?_)
  refine wpList_nil ?_
  try simp only [Exit.then, Exit.inBlock, ↓reduceIte, Nat.reduceEqDiff]
  refine hK11 _ _ ?_
  refine wp_seq_k fun K12 hK12 => ?_
  refine wp_seq_k fun K13 hK13 => ?_
  refine r_list ?_
  refine wl rfl (ky (v := .int .i64 n_1) hS (y_move hS rfl) rfl rfl fun a hS => ?_)
  refine wl rfl (ky (v := .bool (decide ((n_1 : Int) < 0))) hS (y_int hS rfl rfl rfl) rfl rfl fun a hS => ?_)
  refine wl rfl (ky (v := .bool (decide ((n_1 : Int) < 0))) hS (y_move hS rfl) rfl rfl fun a hS => ?_)
  rcases bool2 (decide ((n_1 : Int) < 0)) with hb35 | hb35
  · replace hM := ct hb35 hM
    refine wn hS rfl rfl rfl hb35 rfl rfl fun a hS => ?_
    refine wn hS rfl rfl rfl hb35 rfl rfl fun a hS => ?_
    refine wn hS rfl rfl rfl hb35 rfl rfl fun a hS => ?_
    refine wn hS rfl rfl rfl hb35 rfl rfl fun a hS => ?_
    refine wl rfl (ky (v := .bool true) hS (y_pickt hS rfl hb35 rfl) rfl rfl fun a hS => ?_)
    refine wl rfl (ky (v := .bool true) hS (y_move hS rfl) rfl rfl fun a hS => ?_)
    refine wn hS rfl rfl rfl rfl rfl rfl fun a hS => ?_
    refine wn hS rfl rfl rfl rfl rfl rfl fun a hS => ?_
    refine wl rfl (ky (v := .bool true) hS (y_pickt hS rfl rfl rfl) rfl rfl fun a hS => ?_)
    refine wpList_nil ?_
    try simp only [Exit.then, Exit.inBlock, ↓reduceIte, Nat.reduceEqDiff]
    refine hK13 _ _ ?_
    refine c_t hS rfl rfl ?_
    refine wp_seq_k fun K14 hK14 => ?_
    refine r_list ?_
    refine wl rfl (ky (v := .agg #[.int .i64 0, .string (ByteArray.mk #[])]) hS (y_build (ps := []) hS pl28 ze28 rfl (us := []) trivial (ws := [.int .i64 0, .string (ByteArray.mk #[])]) rfl) rfl rfl fun a hS => ?_)
    refine wl rfl (k_store hS rfl rfl (us := [.int .i64 0, .string (ByteArray.mk #[])]) rfl ty28 0 rfl rfl rfl (oc rfl (oc rfl on)) fun w hk hS => ?_)
    refine wpList_nil ?_
    try simp only [Exit.then, Exit.inBlock, ↓reduceIte, Nat.reduceEqDiff]
    refine hK14 _ _ ?_
    refine wp_ret ?_
    injection hM with hM
    subst hM
    try simp only [Exit.then, Exit.inBlock, ↓reduceIte, Nat.reduceEqDiff]
    refine ret_ok hS Tryd.results56 (res_cell hS rfl 0 rfl ty28 rfl (fun h => by cases h) res_nil) ?_
    exact rfl
  · replace hM := cf hb35 hM
    refine wg hS rfl rfl rfl hb35 (ky (v := .int .i64 n_1) hS (y_move hS rfl) rfl rfl fun a hS => ?_)
    refine wg hS rfl rfl rfl hb35 (ky (v := v1) hS (y_move hS rfl) rfl rfl fun a hS => ?_)
    refine wg hS rfl rfl rfl hb35 (ky (v := .int .i64 (rules_.length : Int)) hS (y_len (R := R_RuleD) (xs := rules_) hS sl49 rfl 0 rfl) rfl rfl fun a hS => ?_)
    refine wg hS rfl rfl rfl hb35 (ky (v := .bool (decide (((rules_.length : Int) : Int) ≤ n_1))) hS (y_int hS rfl rfl rfl) rfl rfl fun a hS => ?_)
    refine wl rfl (ky (v := .bool (decide (((rules_.length : Int) : Int) ≤ n_1))) hS (y_pickf hS rfl hb35 rfl) rfl rfl fun a hS => ?_)
    refine wl rfl (ky (v := .bool (decide (((rules_.length : Int) : Int) ≤ n_1))) hS (y_move hS rfl) rfl rfl fun a hS => ?_)
    rcases bool2 (decide (((rules_.length : Int) : Int) ≤ n_1)) with hb36 | hb36
    · replace hM := ct hb36 hM
      refine wn hS rfl rfl rfl hb36 rfl rfl fun a hS => ?_
      refine wn hS rfl rfl rfl hb36 rfl rfl fun a hS => ?_
      refine wl rfl (ky (v := .bool true) hS (y_pickt hS rfl hb36 rfl) rfl rfl fun a hS => ?_)
      refine wpList_nil ?_
      try simp only [Exit.then, Exit.inBlock, ↓reduceIte, Nat.reduceEqDiff]
      refine hK13 _ _ ?_
      refine c_t hS rfl rfl ?_
      refine wp_seq_k fun K15 hK15 => ?_
      refine r_list ?_
      refine wl rfl (ky (v := .agg #[.int .i64 0, .string (ByteArray.mk #[])]) hS (y_build (ps := []) hS pl28 ze28 rfl (us := []) trivial (ws := [.int .i64 0, .string (ByteArray.mk #[])]) rfl) rfl rfl fun a hS => ?_)
      refine wl rfl (k_store hS rfl rfl (us := [.int .i64 0, .string (ByteArray.mk #[])]) rfl ty28 0 rfl rfl rfl (oc rfl (oc rfl on)) fun w hk hS => ?_)
      refine wpList_nil ?_
      try simp only [Exit.then, Exit.inBlock, ↓reduceIte, Nat.reduceEqDiff]
      refine hK15 _ _ ?_
      refine wp_ret ?_
      injection hM with hM
      subst hM
      try simp only [Exit.then, Exit.inBlock, ↓reduceIte, Nat.reduceEqDiff]
      refine ret_ok hS Tryd.results56 (res_cell hS rfl 0 rfl ty28 rfl (fun h => by cases h) res_nil) ?_
      exact rfl
    · replace hM := cf hb36 hM
      refine wg hS rfl rfl rfl hb36 (ky (v := .int .i64 n_1) hS (y_move hS rfl) rfl rfl fun a hS => ?_)
      refine wg hS rfl rfl rfl hb36 (ky (v := .bool (decide ((99 : Int) < n_1))) hS (y_int hS rfl rfl rfl) rfl rfl fun a hS => ?_)
      refine wl rfl (ky (v := .bool (decide ((99 : Int) < n_1))) hS (y_pickf hS rfl hb36 rfl) rfl rfl fun a hS => ?_)
      refine wpList_nil ?_
      try simp only [Exit.then, Exit.inBlock, ↓reduceIte, Nat.reduceEqDiff]
      refine hK13 _ _ ?_
      rcases bool2 (decide ((99 : Int) < n_1)) with hb37 | hb37
      · replace hM := ct hb37 hM
        refine c_t hS rfl hb37 ?_
        refine wp_seq_k fun K16 hK16 => ?_
        refine r_list ?_
        refine wl rfl (ky (v := .agg #[.int .i64 0, .string (ByteArray.mk #[])]) hS (y_build (ps := []) hS pl28 ze28 rfl (us := []) trivial (ws := [.int .i64 0, .string (ByteArray.mk #[])]) rfl) rfl rfl fun a hS => ?_)
        refine wl rfl (k_store hS rfl rfl (us := [.int .i64 0, .string (ByteArray.mk #[])]) rfl ty28 0 rfl rfl rfl (oc rfl (oc rfl on)) fun w hk hS => ?_)
        refine wpList_nil ?_
        try simp only [Exit.then, Exit.inBlock, ↓reduceIte, Nat.reduceEqDiff]
        refine hK16 _ _ ?_
        refine wp_ret ?_
        injection hM with hM
        subst hM
        try simp only [Exit.then, Exit.inBlock, ↓reduceIte, Nat.reduceEqDiff]
        refine ret_ok hS Tryd.results56 (res_cell hS rfl 0 rfl ty28 rfl (fun h => by cases h) res_nil) ?_
        exact rfl
      · replace hM := cf hb37 hM
        refine c_f hS rfl hb37 ?_
        refine wp_skip ?_
        try simp only [Exit.then, Exit.inBlock, ↓reduceIte, Nat.reduceEqDiff]
        refine hK12 _ _ ?_
        refine wp_seq_k fun K17 hK17 => ?_
        refine r_list ?_
        refine wl rfl (ky (v := .int .i64 31) hS (y_assign hS rfl) rfl rfl fun a hS => ?_)
        refine wpList_nil ?_
        try simp only [Exit.then, Exit.inBlock, ↓reduceIte, Nat.reduceEqDiff]
        refine hK17 _ _ ?_
        refine seq_j (J := fun a w => ∃ (n46 : Int) (kind47 : Int) (g48 : Int), St W0 No T 28 [(1, .int .i64 n46), (4, .pointer (some ⟨b30, 0, none⟩)), (5, .int .i64 kind47)] [.box b30 [.int .i64 g48, .string (ByteArray.mk #[])] 28] [LvF] a w ∧ key_Of_j1 n46 kind47 g48 = some y) ?_ ?_
        · skip
          refine wp_seq_k fun K20 hK20 => ?_
          refine r_list ?_
          refine wl rfl (ky (v := v1) hS (y_move hS rfl) rfl rfl fun a hS => ?_)
          refine wl rfl (ky (v := .int .i64 n_1) hS (y_move hS rfl) rfl rfl fun a hS => ?_)
          obtain ⟨e51, he51, hM⟩ := bd hM
          refine wl rfl (k_index (R := R_RuleD) hS sl49 ty53 rfl rfl 0 rfl he51 rfl fun b53 o54 cs56 hr55 a hS => ?_)
          obtain ⟨v52, rfl, hv52⟩ := hr55
          replace hS := hS.fact (SlF R_AskD v52 e51.Asks) hv52
          refine wl rfl (ky (v := .pointer (some ⟨b53, o54 + 0, none⟩)) hS (y_fld hS rfl fl53_0) rfl rfl fun a hS => ?_)
          refine wl rfl (ky (v := .bool e51.Ring) hS (y_loadc (k := 0) hS ty4 1 rfl rfl (fun _ h => h.elim) (us := [.bool e51.Ring]) rfl rfl (fun _ => rfl)) rfl rfl fun a hS => ?_)
          refine wpList_nil ?_
          try simp only [Exit.then, Exit.inBlock, ↓reduceIte, Nat.reduceEqDiff]
          refine hK20 _ _ ?_
          rcases bool2 (e51.Ring) with hb58 | hb58
          · replace hM := ct hb58 hM
            refine c_t hS rfl hb58 ?_
            refine r_list ?_
            refine wl rfl (ky (v := .int .i64 32) hS (y_assign hS rfl) rfl rfl fun a hS => ?_)
            refine wpList_nil ?_
            try simp only [Exit.then, Exit.inBlock, ↓reduceIte, Nat.reduceEqDiff]
            exact ⟨n_1, 32, 0, (hS.meet [0] (by decide) ⟨rfl, rfl, rfl, trivial⟩ ⟨rfl, trivial⟩ ⟨⟨3, rfl⟩, trivial⟩), hM⟩
          · replace hM := cf hb58 hM
            refine c_f hS rfl hb58 ?_
            refine wp_skip ?_
            try simp only [Exit.then, Exit.inBlock, ↓reduceIte, Nat.reduceEqDiff]
            exact ⟨n_1, 31, 0, (hS.meet [0] (by decide) ⟨rfl, rfl, rfl, trivial⟩ ⟨rfl, trivial⟩ ⟨⟨3, rfl⟩, trivial⟩), hM⟩
        · rintro a w ⟨n46, kind47, g48, hS, hM⟩
          unfold key_Of_j1 at hM
          refine wp_seq_k fun K19 hK19 => ?_
          refine r_list ?_
          refine wl rfl (ky (v := .int .i64 kind47) hS (y_move hS rfl) rfl rfl fun a hS => ?_)
          refine wl rfl (ky (v := .int .i64 n46) hS (y_move hS rfl) rfl rfl fun a hS => ?_)
          obtain ⟨u49, hu49, hM⟩ := bd hM
          refine wl rfl (k_call hS ci36 rfl rfl (itoaM_c _ _ hS.dlt (hS.get 0 rfl) n46 _ hu49) fun _ w hR a hk hA => ?_)
          have he := Eq.symm hR
          subst he
          have hS := hA [] (fun r hr => by cases hr) List.Pairwise.nil
          refine wl rfl (ky (v := .agg #[.int .i64 kind47, .string u49]) hS (y_build (ps := [(0, .tmp 24), (1, .tmp 26)]) hS pl28 ze28 rfl (us := [[.int .i64 kind47], [.string u49]]) ⟨rfl, ⟨rfl, trivial⟩⟩ (ws := [.int .i64 kind47, .string u49]) rfl) rfl rfl fun a hS => ?_)
          refine wl rfl (k_store hS rfl rfl (us := [.int .i64 kind47, .string u49]) rfl ty28 0 rfl rfl rfl (oc rfl (oc rfl on)) fun w hk hS => ?_)
          refine wpList_nil ?_
          try simp only [Exit.then, Exit.inBlock, ↓reduceIte, Nat.reduceEqDiff]
          refine hK19 _ _ ?_
          refine wp_ret ?_
          injection hM with hM
          subst hM
          try simp only [Exit.then, Exit.inBlock, ↓reduceIte, Nat.reduceEqDiff]
          refine ret_ok hS Tryd.results56 (res_cell hS rfl 0 rfl ty28 rfl (fun h => by cases h) res_nil) ?_
          exact rfl

noncomputable def deque_Valid1 (k_0 : KeyD) : Option Bool := (key_Valid k_0).bind fun u9 => some (!(u9))
set_option maxRecDepth 100000 in
set_option maxHeartbeats 4000000 in
theorem deque_Valid1_c (T : Nat → Prop) (W0 : World) (hT : ∀ k, T k → k < W0.heap.size) (hLv : LvP T W0) (k_0 : KeyD) (y : Bool) (hM : deque_Valid1 k_0 = some y) : Rets Tryd.prog No 48 [.agg #[.int .i64 k_0.Kind, .string k_0.Text]] W0 (fun v w' => v = .bool y) := by
  refine enter (c := _) Tryd.func48 rfl T 6 Tryd.ntmps48 hT rfl fun a hS => ?_
  replace hS := hS.fact LvF (LvP.dn hLv)
  unfold deque_Valid1 at hM
  refine wp_seq_k fun K3 hK3 => ?_
  refine r_list ?_
  refine wl rfl (k_box hS rfl (cs := [.int .i64 k_0.Kind, .string k_0.Text]) rfl rfl fun b6 hnb8 a w hk hS => ?_)
  refine wl rfl (ky (v := .bool false) hS (y_assign hS rfl) rfl rfl fun a hS => ?_)
  refine wpList_nil ?_
  try simp only [Exit.then, Exit.inBlock, ↓reduceIte, Nat.reduceEqDiff]
  refine hK3 _ _ ?_
  refine wp_seq_k fun K4 hK4 => ?_
  refine r_list ?_
  refine wl rfl (ky (v := .agg #[.int .i64 k_0.Kind, .string k_0.Text]) hS (y_load hS rfl ty28 0 rfl id (us := [.int .i64 k_0.Kind, .string k_0.Text]) rfl rfl (fun h => by cases h)) rfl rfl fun a hS => ?_)
  obtain ⟨u9, hu9, hM⟩ := bd hM
  refine wl rfl (k_call hS ci46 rfl rfl (key_Valid_c _ _ hS.dlt (hS.get 0 rfl) k_0 _ hu9) fun _ w hR a hk hA => ?_)
  have he := Eq.symm hR
  subst he
  have hS := hA [] (fun r hr => by cases hr) List.Pairwise.nil
  refine wl rfl (ky (v := .bool (!(u9))) hS (y_not hS rfl) rfl rfl fun a hS => ?_)
  refine wl rfl (ky (v := .bool (!(u9))) hS (y_assign hS rfl) rfl rfl fun a hS => ?_)
  refine wpList_nil ?_
  try simp only [Exit.then, Exit.inBlock, ↓reduceIte, Nat.reduceEqDiff]
  refine hK4 _ _ ?_
  refine wp_ret ?_
  injection hM with hM
  subst hM
  try simp only [Exit.then, Exit.inBlock, ↓reduceIte, Nat.reduceEqDiff]
  refine ret_ok hS Tryd.results48 (res_tmp hS rfl res_nil) ?_
  exact rfl

noncomputable def deque_Deal1 (k_0 : KeyD) : Option Bool := (key_Valid k_0).bind fun u9 => some (!(u9))
set_option maxRecDepth 100000 in
set_option maxHeartbeats 4000000 in
theorem deque_Deal1_c (T : Nat → Prop) (W0 : World) (hT : ∀ k, T k → k < W0.heap.size) (hLv : LvP T W0) (k_0 : KeyD) (y : Bool) (hM : deque_Deal1 k_0 = some y) : Rets Tryd.prog No 51 [.agg #[.int .i64 k_0.Kind, .string k_0.Text]] W0 (fun v w' => v = .bool y) := by
  refine enter (c := _) Tryd.func51 rfl T 6 Tryd.ntmps51 hT rfl fun a hS => ?_
  replace hS := hS.fact LvF (LvP.dn hLv)
  unfold deque_Deal1 at hM
  refine wp_seq_k fun K3 hK3 => ?_
  refine r_list ?_
  refine wl rfl (k_box hS rfl (cs := [.int .i64 k_0.Kind, .string k_0.Text]) rfl rfl fun b6 hnb8 a w hk hS => ?_)
  refine wl rfl (ky (v := .bool false) hS (y_assign hS rfl) rfl rfl fun a hS => ?_)
  refine wpList_nil ?_
  try simp only [Exit.then, Exit.inBlock, ↓reduceIte, Nat.reduceEqDiff]
  refine hK3 _ _ ?_
  refine wp_seq_k fun K4 hK4 => ?_
  refine r_list ?_
  refine wl rfl (ky (v := .agg #[.int .i64 k_0.Kind, .string k_0.Text]) hS (y_load hS rfl ty28 0 rfl id (us := [.int .i64 k_0.Kind, .string k_0.Text]) rfl rfl (fun h => by cases h)) rfl rfl fun a hS => ?_)
  obtain ⟨u9, hu9, hM⟩ := bd hM
  refine wl rfl (k_call hS ci46 rfl rfl (key_Valid_c _ _ hS.dlt (hS.get 0 rfl) k_0 _ hu9) fun _ w hR a hk hA => ?_)
  have he := Eq.symm hR
  subst he
  have hS := hA [] (fun r hr => by cases hr) List.Pairwise.nil
  refine wl rfl (ky (v := .bool (!(u9))) hS (y_not hS rfl) rfl rfl fun a hS => ?_)
  refine wl rfl (ky (v := .bool (!(u9))) hS (y_assign hS rfl) rfl rfl fun a hS => ?_)
  refine wpList_nil ?_
  try simp only [Exit.then, Exit.inBlock, ↓reduceIte, Nat.reduceEqDiff]
  refine hK4 _ _ ?_
  refine wp_ret ?_
  injection hM with hM
  subst hM
  try simp only [Exit.then, Exit.inBlock, ↓reduceIte, Nat.reduceEqDiff]
  refine ret_ok hS Tryd.results51 (res_tmp hS rfl res_nil) ?_
  exact rfl

noncomputable def deque_Valid_j1 (g23 : Bool) : Option Bool := some (g23)
noncomputable def deque_Valid (d_0 : DequeD) : Option Bool := cond (decide (((d_0.Keys.length : Int) : Int) ≤ 64)) ((containsf_key deque_Valid1 d_0.Keys).bind fun u25 => deque_Valid_j1 (!(u25))) (deque_Valid_j1 false)
set_option maxRecDepth 100000 in
set_option maxHeartbeats 4000000 in
theorem deque_Valid_c (T : Nat → Prop) (W0 : World) (hT : ∀ k, T k → k < W0.heap.size) (hLv : LvP T W0) (d_0 : DequeD) (v1 : Value) (hv1 : SlR R_KeyD T W0 v1 d_0.Keys) (y : Bool) (hM : deque_Valid d_0 = some y) : Rets Tryd.prog No 17 [.agg #[v1]] W0 (fun v w' => v = .bool y) := by
  refine enter (c := _) Tryd.func17 rfl T 13 Tryd.ntmps17 hT rfl fun a hS => ?_
  replace hS := hS.fact LvF (LvP.dn hLv)
  replace hS := hS.fact (SlF R_KeyD v1 d_0.Keys) (SlR.dn hv1)
  unfold deque_Valid at hM
  refine wp_seq_k fun K2 hK2 => ?_
  refine r_list ?_
  refine wl rfl (k_box hS rfl (cs := [v1]) rfl rfl fun b14 hnb16 a w hk hS => ?_)
  refine wl rfl (ky (v := .bool false) hS (y_assign hS rfl) rfl rfl fun a hS => ?_)
  refine wpList_nil ?_
  try simp only [Exit.then, Exit.inBlock, ↓reduceIte, Nat.reduceEqDiff]
  refine hK2 _ _ ?_
  refine seq_j (J := fun a w => ∃ (g23 : Bool), St W0 No T 13 [(2, .bool g23)] [] [LvF] a w ∧ deque_Valid_j1 g23 = some y) ?_ ?_
  · skip
    refine r_list ?_
    refine wl rfl (ky (v := .pointer (some ⟨b14, 0 + 0, none⟩)) hS (y_fld hS rfl fl26_0) rfl rfl fun a hS => ?_)
    refine wl rfl (ky (v := v1) hS (y_load hS rfl ty24 0 rfl id (us := [v1]) rfl rfl (fun _ => rfl)) rfl rfl fun a hS => ?_)
    refine wl rfl (ky (v := .int .i64 (d_0.Keys.length : Int)) hS (y_len (R := R_KeyD) (xs := d_0.Keys) hS sl24 rfl 0 rfl) rfl rfl fun a hS => ?_)
    refine wl rfl (ky (v := .bool (decide (((d_0.Keys.length : Int) : Int) ≤ 64))) hS (y_int hS rfl rfl rfl) rfl rfl fun a hS => ?_)
    refine wl rfl (ky (v := .bool (decide (((d_0.Keys.length : Int) : Int) ≤ 64))) hS (y_move hS rfl) rfl rfl fun a hS => ?_)
    rcases bool2 (decide (((d_0.Keys.length : Int) : Int) ≤ 64)) with hb24 | hb24
    · replace hM := ct hb24 hM
      refine wg hS rfl rfl rfl hb24 (ky (v := .pointer (some ⟨b14, 0 + 0, none⟩)) hS (y_fld hS rfl fl26_0) rfl rfl fun a hS => ?_)
      refine wg hS rfl rfl rfl hb24 (ky (v := v1) hS (y_load hS rfl ty24 0 rfl id (us := [v1]) rfl rfl (fun _ => rfl)) rfl rfl fun a hS => ?_)
      obtain ⟨u25, hu25, hM⟩ := bd hM
      refine wg hS rfl rfl rfl hb24 (k_call hS ci47 rfl rfl (containsf_key_c _ _ hS.dlt (hS.get 1 rfl) 48 ci48 deque_Valid1 (fun T W0 hT hLv x0 y hM => deque_Valid1_c T W0 hT hLv x0 y hM) d_0.Keys _ (hS.get 0 rfl) _ hu25) fun _ w hR a hk hA => ?_)
      have he := Eq.symm hR
      subst he
      have hS := hA [] (fun r hr => by cases hr) List.Pairwise.nil
      refine wg hS rfl rfl rfl hb24 (ky (v := .bool (!(u25))) hS (y_not hS rfl) rfl rfl fun a hS => ?_)
      refine wl rfl (ky (v := .bool (!(u25))) hS (y_pickt hS rfl hb24 rfl) rfl rfl fun a hS => ?_)
      refine wl rfl (ky (v := .bool (!(u25))) hS (y_assign hS rfl) rfl rfl fun a hS => ?_)
      refine wpList_nil ?_
      try simp only [Exit.then, Exit.inBlock, ↓reduceIte, Nat.reduceEqDiff]
      exact ⟨(!(u25)), (hS.meet [] (by decide) ⟨rfl, trivial⟩ trivial ⟨⟨1, rfl⟩, trivial⟩), hM⟩
    · replace hM := cf hb24 hM
      refine wn hS rfl rfl rfl hb24 rfl rfl fun a hS => ?_
      refine wn hS rfl rfl rfl hb24 rfl rfl fun a hS => ?_
      refine wn hS rfl rfl rfl hb24 rfl rfl fun a hS => ?_
      refine wn hS rfl rfl rfl hb24 rfl rfl fun a hS => ?_
      refine wl rfl (ky (v := .bool false) hS (y_pickf hS rfl hb24 rfl) rfl rfl fun a hS => ?_)
      refine wl rfl (ky (v := .bool false) hS (y_assign hS rfl) rfl rfl fun a hS => ?_)
      refine wpList_nil ?_
      try simp only [Exit.then, Exit.inBlock, ↓reduceIte, Nat.reduceEqDiff]
      exact ⟨false, (hS.meet [] (by decide) ⟨rfl, trivial⟩ trivial ⟨⟨1, rfl⟩, trivial⟩), hM⟩
  · rintro a w ⟨g23, hS, hM⟩
    unfold deque_Valid_j1 at hM
    refine wp_ret ?_
    injection hM with hM
    subst hM
    try simp only [Exit.then, Exit.inBlock, ↓reduceIte, Nat.reduceEqDiff]
    refine ret_ok hS Tryd.results17 (res_tmp hS rfl res_nil) ?_
    exact rfl

noncomputable def deque_owned (d_0 : DequeD) : Option DequeD := (clone_key d_0.Keys).bind fun u16 => some ((DequeD.mk u16))
set_option maxRecDepth 100000 in
set_option maxHeartbeats 4000000 in
theorem deque_owned_c (T : Nat → Prop) (W0 : World) (hT : ∀ k, T k → k < W0.heap.size) (d_0 : DequeD) (v1 : Value) (hv1 : SlR R_KeyD T W0 v1 d_0.Keys) (y : DequeD) (hM : deque_owned d_0 = some y) : Rets Tryd.prog No 45 [.agg #[v1]] W0 (fun v w' => ∃ (v2 : Value) (cl3 : List Value), v = .agg #[v2] ∧ OwnR R_KeyD T W0 w' [.own v2 28 R_KeyD.size cl3] 28 v2 cl3 y.Keys) := by
  refine enter (c := _) Tryd.func45 rfl T 7 Tryd.ntmps45 hT rfl fun a hS => ?_
  replace hS := hS.fact (SlF R_KeyD v1 d_0.Keys) (SlR.dn hv1)
  unfold deque_owned at hM
  refine wp_seq_k fun K3 hK3 => ?_
  refine r_list ?_
  refine wl rfl (k_box hS rfl (cs := [v1]) rfl rfl fun b10 hnb12 a w hk hS => ?_)
  refine wl rfl (k_alloc hS ze26 rfl fun b13 hnb15 a w hk hS => ?_)
  refine wpList_nil ?_
  try simp only [Exit.then, Exit.inBlock, ↓reduceIte, Nat.reduceEqDiff]
  refine hK3 _ _ ?_
  refine wp_seq_k fun K4 hK4 => ?_
  refine r_list ?_
  refine wl rfl (ky (v := .pointer (some ⟨b10, 0 + 0, none⟩)) hS (y_fld hS rfl fl26_0) rfl rfl fun a hS => ?_)
  refine wl rfl (ky (v := v1) hS (y_load hS rfl ty24 1 rfl id (us := [v1]) rfl rfl (fun _ => rfl)) rfl rfl fun a hS => ?_)
  obtain ⟨u16, hu16, hM⟩ := bd hM
  refine wl rfl (k_call hS ci44 rfl rfl (clone_key_c _ _ hS.dlt d_0.Keys _ (hS.get 0 rfl) _ hu16) fun _ w hR a hk hA => ?_)
  obtain ⟨vz17_2, clz17_3, he, ⟨hOvz17_2, hFvz17_2, hRvz17_2⟩⟩ := hR
  replace he := he.symm
  subst he
  have hS := hA [.own vz17_2 28 R_KeyD.size clz17_3] (adds1 ⟨hOvz17_2, by decide⟩ hFvz17_2) (pw1 _)
  replace hS := hS.fact (RowsF R_KeyD clz17_3 u16) (hRvz17_2.keep (Kt.refl _ _) (dT_dT _))
  refine wl rfl (ky (v := .agg #[vz17_2]) hS (y_build (ps := [(0, .tmp 5)]) hS pl26 ze26 rfl (us := [[vz17_2]]) ⟨(cells1 (own_one (hS.own _ (List.mem_of_getElem? (i := 0) rfl)).1)), trivial⟩ (ws := [vz17_2]) rfl) rfl rfl fun a hS => ?_)
  refine wl rfl (k_store hS rfl rfl (us := [vz17_2]) rfl ty26 1 rfl rfl rfl (oc (own_one (hS.own _ (List.mem_of_getElem? (i := 0) rfl)).1) on) fun w hk hS => ?_)
  refine wpList_nil ?_
  try simp only [Exit.then, Exit.inBlock, ↓reduceIte, Nat.reduceEqDiff]
  refine hK4 _ _ ?_
  refine wp_ret ?_
  injection hM with hM
  subst hM
  try simp only [Exit.then, Exit.inBlock, ↓reduceIte, Nat.reduceEqDiff]
  refine ret_ok hS Tryd.results45 (res_cell hS rfl 1 rfl ty26 rfl (fun h => by cases h) res_nil) ?_
  exact ⟨vz17_2, clz17_3, rfl, hS.retOwn ⟨.inr (List.mem_of_getElem? (i := 0) rfl), trivial⟩ 0 rfl 0 rfl⟩

noncomputable def deque_Push (d_0 : DequeD) (k_1 : KeyD) : Option (DequeD × Int) := (deque_owned d_0).bind fun u35 => (key_Valid k_1).bind fun u41 => cond (!(u41)) (some ((u35, 40))) (cond (decide ((64 : Int) ≤ (d_0.Keys.length : Int))) (some ((u35, 45))) (gd (roomB (u35.Keys.length + ([k_1]).length)) <| some (((DequeD.mk (u35.Keys ++ ([k_1]))), 0))))
set_option maxRecDepth 100000 in
set_option maxHeartbeats 4000000 in
theorem deque_Push_c (T : Nat → Prop) (W0 : World) (hT : ∀ k, T k → k < W0.heap.size) (hLv : LvP T W0) (d_0 : DequeD) (k_1 : KeyD) (v1 : Value) (hv1 : SlR R_KeyD T W0 v1 d_0.Keys) (y : DequeD × Int) (hM : deque_Push d_0 k_1 = some y) : Rets Tryd.prog No 15 [.agg #[v1], .agg #[.int .i64 k_1.Kind, .string k_1.Text]] W0 (fun v w' => ∃ (v2 : Value) (cl3 : List Value), v = .tuple #[.agg #[v2], .int .i64 y.2] ∧ OwnR R_KeyD T W0 w' [.own v2 28 R_KeyD.size cl3] 28 v2 cl3 y.1.Keys) := by
  refine enter (c := _) Tryd.func15 rfl T 27 Tryd.ntmps15 hT rfl fun a hS => ?_
  replace hS := hS.fact LvF (LvP.dn hLv)
  replace hS := hS.fact (SlF R_KeyD v1 d_0.Keys) (SlR.dn hv1)
  unfold deque_Push at hM
  refine wp_seq_k fun K10 hK10 => ?_
  refine r_list ?_
  refine wl rfl (k_box hS rfl (cs := [v1]) rfl rfl fun b26 hnb28 a w hk hS => ?_)
  refine wl rfl (k_box hS rfl (cs := [.int .i64 k_1.Kind, .string k_1.Text]) rfl rfl fun b29 hnb31 a w hk hS => ?_)
  refine wl rfl (k_alloc hS ze26 rfl fun b32 hnb34 a w hk hS => ?_)
  refine wl rfl (ky (v := .int .i64 0) hS (y_assign hS rfl) rfl rfl fun a hS => ?_)
  refine wpList_nil ?_
  try simp only [Exit.then, Exit.inBlock, ↓reduceIte, Nat.reduceEqDiff]
  refine hK10 _ _ ?_
  refine wp_seq_k fun K11 hK11 => ?_
  refine r_list ?_
  refine wl rfl (ky (v := .agg #[v1]) hS (y_load hS rfl ty26 2 rfl id (us := [v1]) rfl rfl (fun h => by cases h)) rfl rfl fun a hS => ?_)
  obtain ⟨u35, hu35, hM⟩ := bd hM
  refine wl rfl (k_call hS ci45 rfl rfl (deque_owned_c _ _ hS.dlt d_0 _ (hS.get 0 rfl) _ hu35) fun _ w hR a hk hA => ?_)
  obtain ⟨vz36_2, clz36_3, he, ⟨hOvz36_2, hFvz36_2, hRvz36_2⟩⟩ := hR
  replace he := he.symm
  subst he
  have hS := hA [.own vz36_2 28 R_KeyD.size clz36_3] (adds1 ⟨hOvz36_2, by decide⟩ hFvz36_2) (pw1 _)
  replace hS := hS.fact (RowsF R_KeyD clz36_3 u35.Keys) (hRvz36_2.keep (Kt.refl _ _) (dT_dT _))
  refine wl rfl (k_alloc hS ze26 rfl fun b38 hnb40 a w hk hS => ?_)
  refine wl rfl (k_store hS rfl rfl (us := [vz36_2]) rfl ty26 0 rfl rfl rfl (oc (own_one (hS.own _ (List.mem_of_getElem? (i := 1) rfl)).1) on) fun w hk hS => ?_)
  refine wpList_nil ?_
  try simp only [Exit.then, Exit.inBlock, ↓reduceIte, Nat.reduceEqDiff]
  refine hK11 _ _ ?_
  refine wp_seq_k fun K12 hK12 => ?_
  refine wp_block ?_
  refine wp_seq_k fun K13 hK13 => ?_
  refine r_list ?_
  refine wl rfl (ky (v := .agg #[.int .i64 k_1.Kind, .string k_1.Text]) hS (y_load hS rfl ty28 3 rfl id (us := [.int .i64 k_1.Kind, .string k_1.Text]) rfl rfl (fun h => by cases h)) rfl rfl fun a hS => ?_)
  obtain ⟨u41, hu41, hM⟩ := bd hM
  refine wl rfl (k_call hS ci46 rfl rfl (key_Valid_c _ _ hS.dlt (hS.get 2 rfl) k_1 _ hu41) fun _ w hR a hk hA => ?_)
  have he := Eq.symm hR
  subst he
  have hS := hA [] (fun r hr => by cases hr) List.Pairwise.nil
  refine wl rfl (ky (v := .bool (!(u41))) hS (y_not hS rfl) rfl rfl fun a hS => ?_)
  refine wl rfl (ky (v := .bool (!(u41))) hS (y_assign hS rfl) rfl rfl fun a hS => ?_)
  refine wpList_nil ?_
  try simp only [Exit.then, Exit.inBlock, ↓reduceIte, Nat.reduceEqDiff]
  refine hK13 _ _ ?_
  rcases bool2 (!(u41)) with hb43 | hb43
  · replace hM := ct hb43 hM
    refine c_t hS rfl hb43 ?_
    refine wp_seq_k fun K14 hK14 => ?_
    refine r_list ?_
    refine wl rfl (ky (v := .agg #[vz36_2]) hS (y_load hS rfl ty26 0 rfl id (us := [vz36_2]) rfl rfl (fun h => by cases h)) rfl rfl fun a hS => ?_)
    refine wl rfl (k_store hS rfl rfl (us := [vz36_2]) rfl ty26 2 rfl rfl rfl (oc (own_one (hS.own _ (List.mem_of_getElem? (i := 1) rfl)).1) on) fun w hk hS => ?_)
    refine wl rfl (ky (v := .int .i64 40) hS (y_assign hS rfl) rfl rfl fun a hS => ?_)
    refine wpList_nil ?_
    try simp only [Exit.then, Exit.inBlock, ↓reduceIte, Nat.reduceEqDiff]
    refine hK14 _ _ ?_
    refine wp_ret ?_
    injection hM with hM
    subst hM
    try simp only [Exit.then, Exit.inBlock, ↓reduceIte, Nat.reduceEqDiff]
    refine ret_ok hS Tryd.results15 (res_cell hS rfl 2 rfl ty26 rfl (fun h => by cases h) (res_tmp hS rfl res_nil)) ?_
    exact ⟨vz36_2, clz36_3, rfl, hS.retOwn ⟨.inr (List.mem_of_getElem? (i := 1) rfl), trivial⟩ 1 rfl 0 rfl⟩
  · replace hM := cf hb43 hM
    refine c_f hS rfl hb43 ?_
    refine wp_seq_k fun K15 hK15 => ?_
    refine r_list ?_
    refine wl rfl (ky (v := .pointer (some ⟨b26, 0 + 0, none⟩)) hS (y_fld hS rfl fl26_0) rfl rfl fun a hS => ?_)
    refine wl rfl (ky (v := v1) hS (y_load hS rfl ty24 4 rfl id (us := [v1]) rfl rfl (fun _ => rfl)) rfl rfl fun a hS => ?_)
    refine wl rfl (ky (v := .int .i64 (d_0.Keys.length : Int)) hS (y_len (R := R_KeyD) (xs := d_0.Keys) hS sl24 rfl 1 rfl) rfl rfl fun a hS => ?_)
    refine wl rfl (ky (v := .bool (decide ((64 : Int) ≤ (d_0.Keys.length : Int)))) hS (y_int hS rfl rfl rfl) rfl rfl fun a hS => ?_)
    refine wl rfl (ky (v := .bool (decide ((64 : Int) ≤ (d_0.Keys.length : Int)))) hS (y_assign hS rfl) rfl rfl fun a hS => ?_)
    refine wpList_nil ?_
    try simp only [Exit.then, Exit.inBlock, ↓reduceIte, Nat.reduceEqDiff]
    refine hK15 _ _ ?_
    rcases bool2 (decide ((64 : Int) ≤ (d_0.Keys.length : Int))) with hb44 | hb44
    · replace hM := ct hb44 hM
      refine c_t hS rfl hb44 ?_
      refine wp_seq_k fun K16 hK16 => ?_
      refine r_list ?_
      refine wl rfl (ky (v := .agg #[vz36_2]) hS (y_load hS rfl ty26 0 rfl id (us := [vz36_2]) rfl rfl (fun h => by cases h)) rfl rfl fun a hS => ?_)
      refine wl rfl (k_store hS rfl rfl (us := [vz36_2]) rfl ty26 2 rfl rfl rfl (oc (own_one (hS.own _ (List.mem_of_getElem? (i := 1) rfl)).1) on) fun w hk hS => ?_)
      refine wl rfl (ky (v := .int .i64 45) hS (y_assign hS rfl) rfl rfl fun a hS => ?_)
      refine wpList_nil ?_
      try simp only [Exit.then, Exit.inBlock, ↓reduceIte, Nat.reduceEqDiff]
      refine hK16 _ _ ?_
      refine wp_ret ?_
      injection hM with hM
      subst hM
      try simp only [Exit.then, Exit.inBlock, ↓reduceIte, Nat.reduceEqDiff]
      refine ret_ok hS Tryd.results15 (res_cell hS rfl 2 rfl ty26 rfl (fun h => by cases h) (res_tmp hS rfl res_nil)) ?_
      exact ⟨vz36_2, clz36_3, rfl, hS.retOwn ⟨.inr (List.mem_of_getElem? (i := 1) rfl), trivial⟩ 1 rfl 0 rfl⟩
    · replace hM := cf hb44 hM
      refine c_f hS rfl hb44 ?_
      refine wp_skip ?_
      try simp only [Exit.then, Exit.inBlock, ↓reduceIte, Nat.reduceEqDiff]
      refine hK12 _ _ ?_
      refine wp_seq_k fun K17 hK17 => ?_
      refine r_list ?_
      refine wl rfl (ky (v := .pointer (some ⟨b38, 0 + 0, none⟩)) hS (y_fld hS rfl fl26_0) rfl rfl fun a hS => ?_)
      refine wl rfl (ky (v := vz36_2) hS (y_load hS rfl ty24 0 rfl id (us := [vz36_2]) rfl rfl (fun _ => rfl)) rfl rfl fun a hS => ?_)
      refine wl rfl (ky (v := .agg #[.int .i64 k_1.Kind, .string k_1.Text]) hS (y_load hS rfl ty28 3 rfl id (us := [.int .i64 k_1.Kind, .string k_1.Text]) rfl rfl (fun h => by cases h)) rfl rfl fun a hS => ?_)
      refine wl rfl (k_bslice (ps := [(0, .tmp 22)]) hS el24 ze28 (zl := [.int .i64 0, .string (ByteArray.mk #[])]) (by kernel_rfl) rfl (us := [[.int .i64 k_1.Kind, .string k_1.Text]]) ⟨rfl, trivial⟩ (ws := [.int .i64 k_1.Kind, .string k_1.Text]) rfl rfl rfl rfl fun b45 a w hk hS => ?_)
      replace hS := hS.lit (R := R_KeyD) (us := [.int .i64 k_1.Kind, .string k_1.Text]) (xs := [k_1]) 0 rfl (by decide) (RowsOk.one_ (R := R_KeyD) (x := k_1) rfl) rfl rfl
      replace hS := hS.freeze (R := R_KeyD) 0 rfl 0 rfl
      obtain ⟨hg47, hM⟩ := gd_some hM
      refine wl rfl (k_apps (R := R_KeyD) (xs := u35.Keys) (ys := [k_1]) hS el24 (by decide) (by decide) rfl rfl 1 rfl 2 rfl 0 rfl hg47 rfl fun v48 cl49 a w hk hS => ?_)
      refine wl rfl (ky (v := .pointer (some ⟨b38, 0 + 0, none⟩)) hS (y_fld hS rfl fl26_0) rfl rfl fun a hS => ?_)
      refine wl rfl (k_store hS rfl rfl (us := [v48]) (cells1 (own_one (hS.own _ (List.mem_of_getElem? (i := 1) rfl)).1)) ty24 0 rfl rfl rfl (oc (own_one (hS.own _ (List.mem_of_getElem? (i := 1) rfl)).1) on) fun w hk hS => ?_)
      refine wpList_nil ?_
      try simp only [Exit.then, Exit.inBlock, ↓reduceIte, Nat.reduceEqDiff]
      refine hK17 _ _ ?_
      refine wp_seq_k fun K18 hK18 => ?_
      refine r_list ?_
      refine wl rfl (ky (v := .agg #[v48]) hS (y_load hS rfl ty26 0 rfl id (us := [v48]) rfl rfl (fun h => by cases h)) rfl rfl fun a hS => ?_)
      refine wl rfl (k_store hS rfl rfl (us := [v48]) rfl ty26 2 rfl rfl rfl (oc (own_one (hS.own _ (List.mem_of_getElem? (i := 1) rfl)).1) on) fun w hk hS => ?_)
      refine wl rfl (ky (v := .int .i64 0) hS (y_assign hS rfl) rfl rfl fun a hS => ?_)
      refine wpList_nil ?_
      try simp only [Exit.then, Exit.inBlock, ↓reduceIte, Nat.reduceEqDiff]
      refine hK18 _ _ ?_
      refine wp_ret ?_
      injection hM with hM
      subst hM
      try simp only [Exit.then, Exit.inBlock, ↓reduceIte, Nat.reduceEqDiff]
      refine ret_ok hS Tryd.results15 (res_cell hS rfl 2 rfl ty26 rfl (fun h => by cases h) (res_tmp hS rfl res_nil)) ?_
      exact ⟨v48, cl49, rfl, hS.retOwn ⟨.inr (List.mem_of_getElem? (i := 1) rfl), trivial⟩ 1 rfl 0 rfl⟩

noncomputable def deque_Pop (d_0 : DequeD) : Option (DequeD × KeyD × Bool) := cond (((d_0.Keys.length : Int) : Int) == 0) (some (((DequeD.mk ([])), (KeyD.mk 0 (ByteArray.mk #[])), false))) ((subI d_0.Keys 0 (IntKind.i64.wrap ((d_0.Keys.length : Int) - 1))).bind fun l112 => (getI d_0.Keys (IntKind.i64.wrap ((d_0.Keys.length : Int) - 1))).bind fun e115 => (clone_key l112).bind fun u122 => some (((DequeD.mk u122), e115, true)))
set_option maxRecDepth 100000 in
set_option maxHeartbeats 4000000 in
theorem deque_Pop_c (T : Nat → Prop) (W0 : World) (hT : ∀ k, T k → k < W0.heap.size) (d_0 : DequeD) (v1 : Value) (hv1 : SlR R_KeyD T W0 v1 d_0.Keys) (y : DequeD × KeyD × Bool) (hM : deque_Pop d_0 = some y) : Rets Tryd.prog No 13 [.agg #[v1]] W0 (fun v w' => ∃ (v2 : Value) (cl3 : List Value), v = .tuple #[.agg #[v2], .agg #[.int .i64 y.2.1.Kind, .string y.2.1.Text], .bool y.2.2] ∧ OwnR R_KeyD T W0 w' [.own v2 28 R_KeyD.size cl3] 28 v2 cl3 y.1.Keys) := by
  refine enter (c := _) Tryd.func13 rfl T 26 Tryd.ntmps13 hT rfl fun a hS => ?_
  replace hS := hS.fact (SlF R_KeyD v1 d_0.Keys) (SlR.dn hv1)
  unfold deque_Pop at hM
  refine wp_seq_k fun K7 hK7 => ?_
  refine r_list ?_
  refine wl rfl (k_box hS rfl (cs := [v1]) rfl rfl fun b63 hnb65 a w hk hS => ?_)
  refine wl rfl (k_alloc hS ze26 rfl fun b66 hnb68 a w hk hS => ?_)
  refine wl rfl (k_alloc hS ze28 rfl fun b69 hnb71 a w hk hS => ?_)
  refine wl rfl (ky (v := .bool false) hS (y_assign hS rfl) rfl rfl fun a hS => ?_)
  refine wpList_nil ?_
  try simp only [Exit.then, Exit.inBlock, ↓reduceIte, Nat.reduceEqDiff]
  refine hK7 _ _ ?_
  refine wp_seq_k fun K8 hK8 => ?_
  refine r_list ?_
  refine wl rfl (ky (v := .pointer (some ⟨b63, 0 + 0, none⟩)) hS (y_fld hS rfl fl26_0) rfl rfl fun a hS => ?_)
  refine wl rfl (ky (v := v1) hS (y_load hS rfl ty24 2 rfl id (us := [v1]) rfl rfl (fun _ => rfl)) rfl rfl fun a hS => ?_)
  refine wl rfl (ky (v := .int .i64 (d_0.Keys.length : Int)) hS (y_len (R := R_KeyD) (xs := d_0.Keys) hS sl24 rfl 0 rfl) rfl rfl fun a hS => ?_)
  refine wl rfl (ky (v := .int .i64 (d_0.Keys.length : Int)) hS (y_assign hS rfl) rfl rfl fun a hS => ?_)
  refine wpList_nil ?_
  try simp only [Exit.then, Exit.inBlock, ↓reduceIte, Nat.reduceEqDiff]
  refine hK8 _ _ ?_
  refine wp_seq_k fun K9 hK9 => ?_
  refine wp_seq_k fun K10 hK10 => ?_
  refine r_list ?_
  refine wl rfl (ky (v := .int .i64 (d_0.Keys.length : Int)) hS (y_move hS rfl) rfl rfl fun a hS => ?_)
  refine wl rfl (ky (v := .bool (((d_0.Keys.length : Int) : Int) == 0)) hS (y_int hS rfl rfl rfl) rfl rfl fun a hS => ?_)
  refine wpList_nil ?_
  try simp only [Exit.then, Exit.inBlock, ↓reduceIte, Nat.reduceEqDiff]
  refine hK10 _ _ ?_
  rcases bool2 (((d_0.Keys.length : Int) : Int) == 0) with hb72 | hb72
  · replace hM := ct hb72 hM
    refine c_t hS rfl hb72 ?_
    refine wp_seq_k fun K11 hK11 => ?_
    refine r_list ?_
    refine wl rfl (ky (v := .agg #[.slice none 0 0]) hS (y_build (ps := []) hS pl26 ze26 rfl (us := []) trivial (ws := [.slice none 0 0]) rfl) rfl rfl fun a hS => ?_)
    refine wl rfl (ky (v := .agg #[.int .i64 0, .string (ByteArray.mk #[])]) hS (y_build (ps := []) hS pl28 ze28 rfl (us := []) trivial (ws := [.int .i64 0, .string (ByteArray.mk #[])]) rfl) rfl rfl fun a hS => ?_)
    refine wl rfl (k_store hS rfl rfl (us := [.slice none 0 0]) rfl ty26 1 rfl rfl rfl (oc rfl on) fun w hk hS => ?_)
    refine wl rfl (k_store hS rfl rfl (us := [.int .i64 0, .string (ByteArray.mk #[])]) rfl ty28 0 rfl rfl rfl (oc rfl (oc rfl on)) fun w hk hS => ?_)
    refine wl rfl (ky (v := .bool false) hS (y_assign hS rfl) rfl rfl fun a hS => ?_)
    refine wpList_nil ?_
    try simp only [Exit.then, Exit.inBlock, ↓reduceIte, Nat.reduceEqDiff]
    refine hK11 _ _ ?_
    refine wp_ret ?_
    injection hM with hM
    subst hM
    try simp only [Exit.then, Exit.inBlock, ↓reduceIte, Nat.reduceEqDiff]
    refine ret_ok hS Tryd.results13 (res_cell hS rfl 1 rfl ty26 rfl (fun h => by cases h) (res_cell hS rfl 0 rfl ty28 rfl (fun h => by cases h) (res_tmp hS rfl res_nil))) ?_
    exact ⟨.slice none 0 0, [], rfl, ret_nil _ _ _ _ _ _⟩
  · replace hM := cf hb72 hM
    refine c_f hS rfl hb72 ?_
    refine wp_skip ?_
    try simp only [Exit.then, Exit.inBlock, ↓reduceIte, Nat.reduceEqDiff]
    refine hK9 _ _ ?_
    refine wp_seq_k fun K12 hK12 => ?_
    refine draws [(13, .blk (some b66)), (14, .blk (some b69))] hS mixed rfl (fun c a d v w h => by cases d <;> exact h) fun w hQ hS => ?_
    refine dy 0 (v := .pointer (some ⟨b63, 0 + 0, none⟩)) rfl (by kernel_rfl) (by kernel_rfl) (by kernel_rfl) rfl hQ hS (y_fld hS rfl fl26_0) rfl rfl rfl fun a hS => ?_
    refine dy (l := []) 1 (v := v1) rfl (by kernel_rfl) (by kernel_rfl) (by kernel_rfl) (by kernel_rfl) hQ hS (y_load hS rfl ty24 2 rfl eo_nil (us := [v1]) rfl rfl (fun _ => rfl)) rfl rfl rfl fun a hS => ?_
    refine dy 2 (v := .int .i64 (d_0.Keys.length : Int)) rfl (by kernel_rfl) (by kernel_rfl) (by kernel_rfl) rfl hQ hS (y_move hS rfl) rfl rfl rfl fun a hS => ?_
    refine dy 3 (v := .int .i64 (IntKind.i64.wrap ((d_0.Keys.length : Int) - 1))) rfl (by kernel_rfl) (by kernel_rfl) (by kernel_rfl) rfl hQ hS (y_int hS rfl rfl rfl) rfl rfl rfl fun a hS => ?_
    obtain ⟨l112, hl112, hM⟩ := bd hM
    obtain ⟨v113, hy114, hS⟩ := d_sub (R := R_KeyD) hS sl24 ty28 0 rfl hl112
    refine dy 4 (v := v113) rfl (by kernel_rfl) (by kernel_rfl) (by kernel_rfl) rfl hQ hS (hy114 (k1 := .i64) rfl (.inr ⟨rfl, rfl⟩) (.inl ⟨_, rfl, rfl⟩)) rfl rfl rfl fun a hS => ?_
    refine dy 7 (v := .pointer (some ⟨b63, 0 + 0, none⟩)) rfl (by kernel_rfl) (by kernel_rfl) (by kernel_rfl) rfl hQ hS (y_fld hS rfl fl26_0) rfl rfl rfl fun a hS => ?_
    refine dy (l := [.blk (some b66)]) 8 (v := v1) rfl (by kernel_rfl) (by kernel_rfl) (by kernel_rfl) (by kernel_rfl) hQ hS (y_load hS rfl ty24 2 rfl (eo_ne hS 2 rfl rfl 1 rfl rfl (by decide) eo_nil) (us := [v1]) rfl rfl (fun _ => rfl)) rfl rfl rfl fun a hS => ?_
    refine dy 9 (v := .int .i64 (d_0.Keys.length : Int)) rfl (by kernel_rfl) (by kernel_rfl) (by kernel_rfl) rfl hQ hS (y_move hS rfl) rfl rfl rfl fun a hS => ?_
    refine dy 10 (v := .int .i64 (IntKind.i64.wrap ((d_0.Keys.length : Int) - 1))) rfl (by kernel_rfl) (by kernel_rfl) (by kernel_rfl) rfl hQ hS (y_int hS rfl rfl rfl) rfl rfl rfl fun a hS => ?_
    obtain ⟨e115, he115, hM⟩ := bd hM
    obtain ⟨b116, o117, cs119, hr118, hy121, hS⟩ := d_index (R := R_KeyD) hS sl24 ty28 1 rfl he115
    obtain rfl := hr118
    refine dy 11 (v := .pointer (some ⟨b116, o117, none⟩)) rfl (by kernel_rfl) (by kernel_rfl) (by kernel_rfl) rfl hQ hS (hy121 rfl rfl) rfl rfl rfl fun a hS => ?_
    refine dy (l := [.blk (some b66)]) 12 (v := .agg #[.int .i64 e115.Kind, .string e115.Text]) rfl (by kernel_rfl) (by kernel_rfl) (by kernel_rfl) (by kernel_rfl) hQ hS (y_loadc (k := 0) hS ty28 0 rfl rfl (es_in 1 rfl rfl es_nil) (us := [.int .i64 e115.Kind, .string e115.Text]) rfl rfl (fun h => by cases h)) rfl rfl rfl fun a hS => ?_
    obtain ⟨u122, hu122, hM⟩ := bd hM
    refine wpE_one (i := 5) rfl (by kernel_rfl) rfl (k_call hS ci44 rfl rfl (clone_key_c _ _ hS.dlt l112 _ (hS.get 1 rfl) _ hu122) fun _ w hR a hk hA => ⟨stN (hk), ?_⟩)
    obtain ⟨vz123_2, clz123_3, he, ⟨hOvz123_2, hFvz123_2, hRvz123_2⟩⟩ := hR
    replace he := he.symm
    subst he
    have hS := hA [.own vz123_2 28 R_KeyD.size clz123_3] (adds1 ⟨hOvz123_2, by decide⟩ hFvz123_2) (pw1 _)
    replace hS := hS.fact (RowsF R_KeyD clz123_3 u122) (hRvz123_2.keep (Kt.refl _ _) (dT_dT _))
    refine dy 6 (v := .agg #[vz123_2]) rfl (by kernel_rfl) (by kernel_rfl) (by kernel_rfl) rfl hQ hS (y_build (ps := [(0, .tmp 18)]) hS pl26 ze26 rfl (us := [[vz123_2]]) ⟨(cells1 (own_one (hS.own _ (List.mem_of_getElem? (i := 0) rfl)).1)), trivial⟩ (ws := [vz123_2]) rfl) rfl rfl rfl fun a hS => ?_
    refine wpE_one (i := 13) rfl (by kernel_rfl) rfl (k_store hS rfl rfl (us := [vz123_2]) rfl ty26 2 rfl rfl rfl (oc (own_one (hS.own _ (List.mem_of_getElem? (i := 0) rfl)).1) on) fun w hk hS => ⟨stM rfl hk etBox, ?_⟩)
    refine wpE_one (i := 14) rfl (by kernel_rfl) rfl (k_store hS rfl rfl (us := [.int .i64 e115.Kind, .string e115.Text]) rfl ty28 1 rfl rfl rfl (oc rfl (oc rfl on)) fun w hk hS => ⟨stM rfl hk etBox, ?_⟩)
    refine dy 15 (v := .bool true) rfl (by kernel_rfl) (by kernel_rfl) (by kernel_rfl) rfl hQ hS (y_assign hS rfl) rfl rfl rfl fun a hS => ?_
    refine wpE_done (by kernel_rfl) ?_ _
    try simp only [Exit.then, Exit.inBlock, ↓reduceIte, Nat.reduceEqDiff]
    refine hK12 _ _ ?_
    refine wp_ret ?_
    injection hM with hM
    subst hM
    try simp only [Exit.then, Exit.inBlock, ↓reduceIte, Nat.reduceEqDiff]
    refine ret_ok hS Tryd.results13 (res_cell hS rfl 2 rfl ty26 rfl (fun h => by cases h) (res_cell hS rfl 1 rfl ty28 rfl (fun h => by cases h) (res_tmp hS rfl res_nil))) ?_
    exact ⟨vz123_2, clz123_3, rfl, hS.retOwn ⟨.inr (List.mem_of_getElem? (i := 0) rfl), trivial⟩ 0 rfl 0 rfl⟩

noncomputable def deque_Steal (d_0 : DequeD) : Option (DequeD × KeyD × Bool) := cond (((d_0.Keys.length : Int) : Int) == 0) (some (((DequeD.mk ([])), (KeyD.mk 0 (ByteArray.mk #[])), false))) ((subI d_0.Keys 1 d_0.Keys.length).bind fun l112 => (getI d_0.Keys 0).bind fun e115 => (clone_key l112).bind fun u122 => some (((DequeD.mk u122), e115, true)))
set_option maxRecDepth 100000 in
set_option maxHeartbeats 4000000 in
theorem deque_Steal_c (T : Nat → Prop) (W0 : World) (hT : ∀ k, T k → k < W0.heap.size) (d_0 : DequeD) (v1 : Value) (hv1 : SlR R_KeyD T W0 v1 d_0.Keys) (y : DequeD × KeyD × Bool) (hM : deque_Steal d_0 = some y) : Rets Tryd.prog No 14 [.agg #[v1]] W0 (fun v w' => ∃ (v2 : Value) (cl3 : List Value), v = .tuple #[.agg #[v2], .agg #[.int .i64 y.2.1.Kind, .string y.2.1.Text], .bool y.2.2] ∧ OwnR R_KeyD T W0 w' [.own v2 28 R_KeyD.size cl3] 28 v2 cl3 y.1.Keys) := by
  refine enter (c := _) Tryd.func14 rfl T 20 Tryd.ntmps14 hT rfl fun a hS => ?_
  replace hS := hS.fact (SlF R_KeyD v1 d_0.Keys) (SlR.dn hv1)
  unfold deque_Steal at hM
  refine wp_seq_k fun K6 hK6 => ?_
  refine r_list ?_
  refine wl rfl (k_box hS rfl (cs := [v1]) rfl rfl fun b63 hnb65 a w hk hS => ?_)
  refine wl rfl (k_alloc hS ze26 rfl fun b66 hnb68 a w hk hS => ?_)
  refine wl rfl (k_alloc hS ze28 rfl fun b69 hnb71 a w hk hS => ?_)
  refine wl rfl (ky (v := .bool false) hS (y_assign hS rfl) rfl rfl fun a hS => ?_)
  refine wpList_nil ?_
  try simp only [Exit.then, Exit.inBlock, ↓reduceIte, Nat.reduceEqDiff]
  refine hK6 _ _ ?_
  refine wp_seq_k fun K7 hK7 => ?_
  refine wp_seq_k fun K8 hK8 => ?_
  refine r_list ?_
  refine wl rfl (ky (v := .pointer (some ⟨b63, 0 + 0, none⟩)) hS (y_fld hS rfl fl26_0) rfl rfl fun a hS => ?_)
  refine wl rfl (ky (v := v1) hS (y_load hS rfl ty24 2 rfl id (us := [v1]) rfl rfl (fun _ => rfl)) rfl rfl fun a hS => ?_)
  refine wl rfl (ky (v := .int .i64 (d_0.Keys.length : Int)) hS (y_len (R := R_KeyD) (xs := d_0.Keys) hS sl24 rfl 0 rfl) rfl rfl fun a hS => ?_)
  refine wl rfl (ky (v := .bool (((d_0.Keys.length : Int) : Int) == 0)) hS (y_int hS rfl rfl rfl) rfl rfl fun a hS => ?_)
  refine wpList_nil ?_
  try simp only [Exit.then, Exit.inBlock, ↓reduceIte, Nat.reduceEqDiff]
  refine hK8 _ _ ?_
  rcases bool2 (((d_0.Keys.length : Int) : Int) == 0) with hb72 | hb72
  · replace hM := ct hb72 hM
    refine c_t hS rfl hb72 ?_
    refine wp_seq_k fun K9 hK9 => ?_
    refine r_list ?_
    refine wl rfl (ky (v := .agg #[.slice none 0 0]) hS (y_build (ps := []) hS pl26 ze26 rfl (us := []) trivial (ws := [.slice none 0 0]) rfl) rfl rfl fun a hS => ?_)
    refine wl rfl (ky (v := .agg #[.int .i64 0, .string (ByteArray.mk #[])]) hS (y_build (ps := []) hS pl28 ze28 rfl (us := []) trivial (ws := [.int .i64 0, .string (ByteArray.mk #[])]) rfl) rfl rfl fun a hS => ?_)
    refine wl rfl (k_store hS rfl rfl (us := [.slice none 0 0]) rfl ty26 1 rfl rfl rfl (oc rfl on) fun w hk hS => ?_)
    refine wl rfl (k_store hS rfl rfl (us := [.int .i64 0, .string (ByteArray.mk #[])]) rfl ty28 0 rfl rfl rfl (oc rfl (oc rfl on)) fun w hk hS => ?_)
    refine wl rfl (ky (v := .bool false) hS (y_assign hS rfl) rfl rfl fun a hS => ?_)
    refine wpList_nil ?_
    try simp only [Exit.then, Exit.inBlock, ↓reduceIte, Nat.reduceEqDiff]
    refine hK9 _ _ ?_
    refine wp_ret ?_
    injection hM with hM
    subst hM
    try simp only [Exit.then, Exit.inBlock, ↓reduceIte, Nat.reduceEqDiff]
    refine ret_ok hS Tryd.results14 (res_cell hS rfl 1 rfl ty26 rfl (fun h => by cases h) (res_cell hS rfl 0 rfl ty28 rfl (fun h => by cases h) (res_tmp hS rfl res_nil))) ?_
    exact ⟨.slice none 0 0, [], rfl, ret_nil _ _ _ _ _ _⟩
  · replace hM := cf hb72 hM
    refine c_f hS rfl hb72 ?_
    refine wp_skip ?_
    try simp only [Exit.then, Exit.inBlock, ↓reduceIte, Nat.reduceEqDiff]
    refine hK7 _ _ ?_
    refine wp_seq_k fun K10 hK10 => ?_
    refine draws [(9, .blk (some b66)), (10, .blk (some b69))] hS mixed rfl (fun c a d v w h => by cases d <;> exact h) fun w hQ hS => ?_
    refine dy 0 (v := .pointer (some ⟨b63, 0 + 0, none⟩)) rfl (by kernel_rfl) (by kernel_rfl) (by kernel_rfl) rfl hQ hS (y_fld hS rfl fl26_0) rfl rfl rfl fun a hS => ?_
    refine dy (l := []) 1 (v := v1) rfl (by kernel_rfl) (by kernel_rfl) (by kernel_rfl) (by kernel_rfl) hQ hS (y_load hS rfl ty24 2 rfl eo_nil (us := [v1]) rfl rfl (fun _ => rfl)) rfl rfl rfl fun a hS => ?_
    obtain ⟨l112, hl112, hM⟩ := bd hM
    obtain ⟨v113, hy114, hS⟩ := d_sub (R := R_KeyD) hS sl24 ty28 0 rfl hl112
    refine dy 2 (v := v113) rfl (by kernel_rfl) (by kernel_rfl) (by kernel_rfl) rfl hQ hS (hy114 (k2 := .i64) rfl (.inl ⟨_, rfl, rfl⟩) (.inr ⟨rfl, rfl⟩)) rfl rfl rfl fun a hS => ?_
    refine dy 5 (v := .pointer (some ⟨b63, 0 + 0, none⟩)) rfl (by kernel_rfl) (by kernel_rfl) (by kernel_rfl) rfl hQ hS (y_fld hS rfl fl26_0) rfl rfl rfl fun a hS => ?_
    refine dy (l := [.blk (some b66)]) 6 (v := v1) rfl (by kernel_rfl) (by kernel_rfl) (by kernel_rfl) (by kernel_rfl) hQ hS (y_load hS rfl ty24 2 rfl (eo_ne hS 2 rfl rfl 1 rfl rfl (by decide) eo_nil) (us := [v1]) rfl rfl (fun _ => rfl)) rfl rfl rfl fun a hS => ?_
    obtain ⟨e115, he115, hM⟩ := bd hM
    obtain ⟨b116, o117, cs119, hr118, hy121, hS⟩ := d_index (R := R_KeyD) hS sl24 ty28 1 rfl he115
    obtain rfl := hr118
    refine dy 7 (v := .pointer (some ⟨b116, o117, none⟩)) rfl (by kernel_rfl) (by kernel_rfl) (by kernel_rfl) rfl hQ hS (hy121 rfl rfl) rfl rfl rfl fun a hS => ?_
    refine dy (l := [.blk (some b66)]) 8 (v := .agg #[.int .i64 e115.Kind, .string e115.Text]) rfl (by kernel_rfl) (by kernel_rfl) (by kernel_rfl) (by kernel_rfl) hQ hS (y_loadc (k := 0) hS ty28 0 rfl rfl (es_in 1 rfl rfl es_nil) (us := [.int .i64 e115.Kind, .string e115.Text]) rfl rfl (fun h => by cases h)) rfl rfl rfl fun a hS => ?_
    obtain ⟨u122, hu122, hM⟩ := bd hM
    refine wpE_one (i := 3) rfl (by kernel_rfl) rfl (k_call hS ci44 rfl rfl (clone_key_c _ _ hS.dlt l112 _ (hS.get 1 rfl) _ hu122) fun _ w hR a hk hA => ⟨stN (hk), ?_⟩)
    obtain ⟨vz123_2, clz123_3, he, ⟨hOvz123_2, hFvz123_2, hRvz123_2⟩⟩ := hR
    replace he := he.symm
    subst he
    have hS := hA [.own vz123_2 28 R_KeyD.size clz123_3] (adds1 ⟨hOvz123_2, by decide⟩ hFvz123_2) (pw1 _)
    replace hS := hS.fact (RowsF R_KeyD clz123_3 u122) (hRvz123_2.keep (Kt.refl _ _) (dT_dT _))
    refine dy 4 (v := .agg #[vz123_2]) rfl (by kernel_rfl) (by kernel_rfl) (by kernel_rfl) rfl hQ hS (y_build (ps := [(0, .tmp 14)]) hS pl26 ze26 rfl (us := [[vz123_2]]) ⟨(cells1 (own_one (hS.own _ (List.mem_of_getElem? (i := 0) rfl)).1)), trivial⟩ (ws := [vz123_2]) rfl) rfl rfl rfl fun a hS => ?_
    refine wpE_one (i := 9) rfl (by kernel_rfl) rfl (k_store hS rfl rfl (us := [vz123_2]) rfl ty26 2 rfl rfl rfl (oc (own_one (hS.own _ (List.mem_of_getElem? (i := 0) rfl)).1) on) fun w hk hS => ⟨stM rfl hk etBox, ?_⟩)
    refine wpE_one (i := 10) rfl (by kernel_rfl) rfl (k_store hS rfl rfl (us := [.int .i64 e115.Kind, .string e115.Text]) rfl ty28 1 rfl rfl rfl (oc rfl (oc rfl on)) fun w hk hS => ⟨stM rfl hk etBox, ?_⟩)
    refine dy 11 (v := .bool true) rfl (by kernel_rfl) (by kernel_rfl) (by kernel_rfl) rfl hQ hS (y_assign hS rfl) rfl rfl rfl fun a hS => ?_
    refine wpE_done (by kernel_rfl) ?_ _
    try simp only [Exit.then, Exit.inBlock, ↓reduceIte, Nat.reduceEqDiff]
    refine hK10 _ _ ?_
    refine wp_ret ?_
    injection hM with hM
    subst hM
    try simp only [Exit.then, Exit.inBlock, ↓reduceIte, Nat.reduceEqDiff]
    refine ret_ok hS Tryd.results14 (res_cell hS rfl 2 rfl ty26 rfl (fun h => by cases h) (res_cell hS rfl 1 rfl ty28 rfl (fun h => by cases h) (res_tmp hS rfl res_nil))) ?_
    exact ⟨vz123_2, clz123_3, rfl, hS.retOwn ⟨.inr (List.mem_of_getElem? (i := 0) rfl), trivial⟩ 0 rfl 0 rfl⟩

noncomputable def ref32_Deal_j1 (out1053 : (List DequeD)) : Option ((List DequeD) × Int) := some ((out1053, 0))
noncomputable def ref32_Deal_j2 (workers_ : Int) (out1212 : (List DequeD)) (g1216 : Int) (e1456 : Int) (d1457 : (List KeyD)) : Option (Fl ((List DequeD) × Int) (Fl ((List DequeD)) ((List DequeD) × Int))) := cond ((e1456 : Int) != 0) (some (.out (.out ([], e1456)))) (gd ((workers_ : Int) != 0) <| (getI out1212 (Int.tmod g1216 workers_)).bind fun e1475 => some (.go ((out1212.set (Int.toNat (Int.tmod g1216 workers_)) (DequeD.mk d1457)), IntKind.i64.wrap (g1216 + 1))))
noncomputable def ref32_Deal_l3 (l_0 : (List KeyD)) (workers_ : Int) (out1212 : (List DequeD)) (g1216 : Int) : Option (Fl ((List DequeD) × Int) (Fl ((List DequeD)) ((List DequeD) × Int))) := cond (decide ((g1216 : Int) < (l_0.length : Int))) ((getI l_0 g1216).bind fun e1373 => gd ((workers_ : Int) != 0) <| (getI out1212 (Int.tmod g1216 workers_)).bind fun e1505 => (ref32_Push e1505 e1373).bind fun u1515 => ref32_Deal_j2 workers_ out1212 g1216 u1515.2 u1515.1.Keys) (some (.out (.go out1212)))
noncomputable def ref32_Deal_j4 (l_0 : (List KeyD)) (workers_ : Int) : Option ((List DequeD) × Int) := gd (decide (0 ≤ workers_)) <| gd (roomB (Int.toNat workers_)) <| (loop (fun s : (List DequeD) × Int => ref32_Deal_l3 l_0 workers_ s.1 s.2) ((List.replicate (Int.toNat workers_) (DequeD.mk [])), 0)).bind fun r => Fl.el r (fun s => ref32_Deal_j1 s) (fun y => some (y))
noncomputable def ref32_Deal_l5 (l_0 : (List KeyD)) (g1536 : Int) : Option (Fl (Int) (Fl (Unit) ((List DequeD) × Int))) := cond (decide ((g1536 : Int) < (l_0.length : Int))) ((getI l_0 g1536).bind fun e1552 => (ref23_Valid e1552).bind fun u1561 => cond (!(u1561)) (some (.out (.out ([], 40)))) (some (.go (IntKind.i64.wrap (g1536 + 1))))) (some (.out (.go ())))
noncomputable def ref32_Deal (l_0 : (List KeyD)) (workers_ : Int) : Option ((List DequeD) × Int) := cond (decide ((workers_ : Int) < 1)) (some (([], 48))) (cond (decide ((6 : Int) < workers_)) (some (([], 48))) ((loop (fun s : Int => ref32_Deal_l5 l_0 s) 0).bind fun r => Fl.el r (fun s => ref32_Deal_j4 l_0 workers_) (fun y => some (y))))
set_option maxRecDepth 100000 in
set_option maxHeartbeats 4000000 in
theorem ref32_Deal_c (T : Nat → Prop) (W0 : World) (hT : ∀ k, T k → k < W0.heap.size) (l_0 : (List KeyD)) (workers_ : Int) (v1 : Value) (hv1 : SlR R_KeyD T W0 v1 l_0) (y : (List DequeD) × Int) (hM : ref32_Deal l_0 workers_ = some y) : Rets Tryd.prog No 25 [v1, .int .i64 workers_] W0 (fun v w' => ∃ (v2 : Value) (cl3 : List Value), v = .tuple #[v2, .int .i64 y.2] ∧ OwnR R_DequeD T W0 w' [.own v2 26 R_DequeD.size cl3] 26 v2 cl3 y.1) := by
  refine enter (c := _) Tryd.func25 rfl T 60 Tryd.ntmps25 hT rfl fun a hS => ?_
  replace hS := hS.fact (SlF R_KeyD v1 l_0) (SlR.dn hv1)
  unfold ref32_Deal at hM
  refine wp_seq_k fun K58 hK58 => ?_
  refine r_list ?_
  refine wl rfl (ky (v := .slice none 0 0) hS (y_assign hS rfl) rfl rfl fun a hS => ?_)
  refine wl rfl (ky (v := .int .i64 0) hS (y_assign hS rfl) rfl rfl fun a hS => ?_)
  refine wpList_nil ?_
  try simp only [Exit.then, Exit.inBlock, ↓reduceIte, Nat.reduceEqDiff]
  refine hK58 _ _ ?_
  refine wp_seq_k fun K59 hK59 => ?_
  refine wp_seq_k fun K60 hK60 => ?_
  refine r_list ?_
  refine wl rfl (ky (v := .int .i64 workers_) hS (y_move hS rfl) rfl rfl fun a hS => ?_)
  refine wl rfl (ky (v := .bool (decide ((workers_ : Int) < 1))) hS (y_int hS rfl rfl rfl) rfl rfl fun a hS => ?_)
  refine wl rfl (ky (v := .bool (decide ((workers_ : Int) < 1))) hS (y_move hS rfl) rfl rfl fun a hS => ?_)
  rcases bool2 (decide ((workers_ : Int) < 1)) with hb702 | hb702
  · replace hM := ct hb702 hM
    refine wn hS rfl rfl rfl hb702 rfl rfl fun a hS => ?_
    refine wn hS rfl rfl rfl hb702 rfl rfl fun a hS => ?_
    refine wl rfl (ky (v := .bool true) hS (y_pickt hS rfl hb702 rfl) rfl rfl fun a hS => ?_)
    refine wpList_nil ?_
    try simp only [Exit.then, Exit.inBlock, ↓reduceIte, Nat.reduceEqDiff]
    refine hK60 _ _ ?_
    refine c_t hS rfl rfl ?_
    refine wp_seq_k fun K61 hK61 => ?_
    refine r_list ?_
    refine wl rfl (ky (v := .slice none 0 0) hS (y_assign hS rfl) rfl rfl fun a hS => ?_)
    refine wl rfl (ky (v := .int .i64 48) hS (y_assign hS rfl) rfl rfl fun a hS => ?_)
    refine wpList_nil ?_
    try simp only [Exit.then, Exit.inBlock, ↓reduceIte, Nat.reduceEqDiff]
    refine hK61 _ _ ?_
    refine wp_ret ?_
    injection hM with hM
    subst hM
    try simp only [Exit.then, Exit.inBlock, ↓reduceIte, Nat.reduceEqDiff]
    refine ret_ok hS Tryd.results25 (res_tmp hS rfl (res_tmp hS rfl res_nil)) ?_
    exact ⟨.slice none 0 0, [], rfl, ret_nil _ _ _ _ _ _⟩
  · replace hM := cf hb702 hM
    refine wg hS rfl rfl rfl hb702 (ky (v := .int .i64 workers_) hS (y_move hS rfl) rfl rfl fun a hS => ?_)
    refine wg hS rfl rfl rfl hb702 (ky (v := .bool (decide ((6 : Int) < workers_))) hS (y_int hS rfl rfl rfl) rfl rfl fun a hS => ?_)
    refine wl rfl (ky (v := .bool (decide ((6 : Int) < workers_))) hS (y_pickf hS rfl hb702 rfl) rfl rfl fun a hS => ?_)
    refine wpList_nil ?_
    try simp only [Exit.then, Exit.inBlock, ↓reduceIte, Nat.reduceEqDiff]
    refine hK60 _ _ ?_
    rcases bool2 (decide ((6 : Int) < workers_)) with hb703 | hb703
    · replace hM := ct hb703 hM
      refine c_t hS rfl hb703 ?_
      refine wp_seq_k fun K62 hK62 => ?_
      refine r_list ?_
      refine wl rfl (ky (v := .slice none 0 0) hS (y_assign hS rfl) rfl rfl fun a hS => ?_)
      refine wl rfl (ky (v := .int .i64 48) hS (y_assign hS rfl) rfl rfl fun a hS => ?_)
      refine wpList_nil ?_
      try simp only [Exit.then, Exit.inBlock, ↓reduceIte, Nat.reduceEqDiff]
      refine hK62 _ _ ?_
      refine wp_ret ?_
      injection hM with hM
      subst hM
      try simp only [Exit.then, Exit.inBlock, ↓reduceIte, Nat.reduceEqDiff]
      refine ret_ok hS Tryd.results25 (res_tmp hS rfl (res_tmp hS rfl res_nil)) ?_
      exact ⟨.slice none 0 0, [], rfl, ret_nil _ _ _ _ _ _⟩
    · replace hM := cf hb703 hM
      refine c_f hS rfl hb703 ?_
      refine wp_skip ?_
      try simp only [Exit.then, Exit.inBlock, ↓reduceIte, Nat.reduceEqDiff]
      refine hK59 _ _ ?_
      refine seq_j (J := fun a w => St W0 No T 60 [(0, v1), (1, .int .i64 workers_)] [] [SlF R_KeyD v1 l_0] a w ∧ ref32_Deal_j4 l_0 workers_ = some y) ?_ ?_
      · skip
        refine wp_seq_k fun K115 hK115 => ?_
        refine r_list ?_
        refine wl rfl (ky (v := v1) hS (y_move hS rfl) rfl rfl fun a hS => ?_)
        refine wl rfl (ky (v := .int .i64 (l_0.length : Int)) hS (y_len (R := R_KeyD) (xs := l_0) hS sl24 rfl 0 rfl) rfl rfl fun a hS => ?_)
        refine wl rfl (ky (v := .int .i64 0) hS (y_move hS rfl) rfl rfl fun a hS => ?_)
        refine wpList_nil ?_
        try simp only [Exit.then, Exit.inBlock, ↓reduceIte, Nat.reduceEqDiff]
        refine hK115 _ _ ?_
        refine wp_block ?_
        obtain ⟨r1, hl1, hMo1⟩ := bd hM
        refine wp_lp (fun s : Int => ref32_Deal_l5 l_0 s) (fun s a w => ∃ (g1536 : Int), g1536 = s ∧ St W0 No T 60 [(0, v1), (1, .int .i64 workers_), (19, v1), (20, .int .i64 (l_0.length : Int)), (21, .int .i64 g1536)] [] [SlF R_KeyD v1 l_0] a w) hl1 ⟨0, rfl, (hS.meet [] (by decide) ⟨rfl, rfl, rfl, rfl, rfl, trivial⟩ trivial ⟨⟨0, rfl⟩, trivial⟩)⟩ ?_
        rintro s a w f1 ⟨g1536, rfl, hS⟩ hM hf1
        have hM : ref32_Deal_l5 l_0 g1536 = some f1 := hM
        unfold ref32_Deal_l5 at hM
        refine wp_seq_k fun K128 hK128 => ?_
        refine r_list ?_
        refine wl rfl (ky (v := .bool (decide ((g1536 : Int) < (l_0.length : Int)))) hS (y_int hS rfl rfl rfl) rfl rfl fun a hS => ?_)
        refine wpList_nil ?_
        try simp only [Exit.then, Exit.inBlock, ↓reduceIte, Nat.reduceEqDiff]
        refine hK128 _ _ ?_
        refine wp_seq_k fun K129 hK129 => ?_
        rcases bool2 (decide ((g1536 : Int) < (l_0.length : Int))) with hb1551 | hb1551
        · replace hM := ct hb1551 hM
          refine c_t hS rfl hb1551 ?_
          refine wp_skip ?_
          try simp only [Exit.then, Exit.inBlock, ↓reduceIte, Nat.reduceEqDiff]
          refine hK129 _ _ ?_
          refine wp_seq_k fun K130 hK130 => ?_
          refine wp_block ?_
          refine wp_seq_k fun K131 hK131 => ?_
          refine r_list ?_
          obtain ⟨e1552, he1552, hM⟩ := bd hM
          refine wl rfl (k_index (R := R_KeyD) hS sl24 ty28 rfl rfl 0 rfl he1552 rfl fun b1553 o1554 cs1556 hr1555 a hS => ?_)
          obtain rfl := hr1555
          refine wl rfl (ky (v := .agg #[.int .i64 e1552.Kind, .string e1552.Text]) hS (y_loadc (k := 0) hS ty28 0 rfl rfl (fun _ h => h.elim) (us := [.int .i64 e1552.Kind, .string e1552.Text]) rfl rfl (fun h => by cases h)) rfl rfl fun a hS => ?_)
          refine wl rfl (k_alloc hS ze28 rfl fun b1558 hnb1560 a w hk hS => ?_)
          refine wl rfl (k_store hS rfl rfl (us := [.int .i64 e1552.Kind, .string e1552.Text]) rfl ty28 0 rfl rfl rfl (oc rfl (oc rfl on)) fun w hk hS => ?_)
          refine wpList_nil ?_
          try simp only [Exit.then, Exit.inBlock, ↓reduceIte, Nat.reduceEqDiff]
          refine hK131 _ _ ?_
          refine wp_seq_k fun K132 hK132 => ?_
          refine r_list ?_
          refine wl rfl (ky (v := .agg #[.int .i64 e1552.Kind, .string e1552.Text]) hS (y_load hS rfl ty28 0 rfl id (us := [.int .i64 e1552.Kind, .string e1552.Text]) rfl rfl (fun h => by cases h)) rfl rfl fun a hS => ?_)
          obtain ⟨u1561, hu1561, hM⟩ := bd hM
          refine wl rfl (k_call hS ci42 rfl rfl (ref23_Valid_c _ _ hS.dlt e1552 _ hu1561) fun _ w hR a hk hA => ?_)
          have he := Eq.symm hR
          subst he
          have hS := hA [] (fun r hr => by cases hr) List.Pairwise.nil
          refine wl rfl (ky (v := .bool (!(u1561))) hS (y_not hS rfl) rfl rfl fun a hS => ?_)
          refine wpList_nil ?_
          try simp only [Exit.then, Exit.inBlock, ↓reduceIte, Nat.reduceEqDiff]
          refine hK132 _ _ ?_
          rcases bool2 (!(u1561)) with hb1563 | hb1563
          · replace hM := ct hb1563 hM
            refine c_t hS rfl hb1563 ?_
            refine wp_seq_k fun K133 hK133 => ?_
            refine r_list ?_
            refine wl rfl (ky (v := .slice none 0 0) hS (y_assign hS rfl) rfl rfl fun a hS => ?_)
            refine wl rfl (ky (v := .int .i64 40) hS (y_assign hS rfl) rfl rfl fun a hS => ?_)
            refine wpList_nil ?_
            try simp only [Exit.then, Exit.inBlock, ↓reduceIte, Nat.reduceEqDiff]
            refine hK133 _ _ ?_
            refine wp_ret ?_
            injection hM with hM
            subst hM
            have hr := hf1 _ rfl
            subst hr
            replace hMo1 := el_out hMo1
            have hM := hMo1
            injection hM with hM
            subst hM
            try simp only [Exit.then, Exit.inBlock, ↓reduceIte, Nat.reduceEqDiff]
            refine ret_ok hS Tryd.results25 (res_tmp hS rfl (res_tmp hS rfl res_nil)) ?_
            exact ⟨.slice none 0 0, [], rfl, ret_nil _ _ _ _ _ _⟩
          · replace hM := cf hb1563 hM
            refine c_f hS rfl hb1563 ?_
            refine wp_skip ?_
            try simp only [Exit.then, Exit.inBlock, ↓reduceIte, Nat.reduceEqDiff]
            refine hK130 _ _ ?_
            refine r_list ?_
            refine wl rfl (ky (v := .int .i64 (IntKind.i64.wrap (g1536 + 1))) hS (y_int hS rfl rfl rfl) rfl rfl fun a hS => ?_)
            refine wl rfl (ky (v := .int .i64 (IntKind.i64.wrap (g1536 + 1))) hS (y_move hS rfl) rfl rfl fun a hS => ?_)
            refine wpList_nil ?_
            try simp only [Exit.then, Exit.inBlock, ↓reduceIte, Nat.reduceEqDiff]
            exact ⟨IntKind.i64.wrap (g1536 + 1), (Option.some.inj hM).symm, (IntKind.i64.wrap (g1536 + 1)), rfl, (hS.meet [] (by decide) ⟨rfl, rfl, rfl, rfl, rfl, trivial⟩ trivial ⟨⟨1, rfl⟩, trivial⟩)⟩
        · replace hM := cf hb1551 hM
          refine c_f hS rfl hb1551 ?_
          refine wp_exit ?_
          try simp only [Exit.then, Exit.inBlock, ↓reduceIte, Nat.reduceEqDiff]
          injection hM with hM
          subst hM
          have hr := hf1 _ rfl
          subst hr
          replace hMo1 := el_go hMo1
          have hM : ref32_Deal_j4 l_0 workers_ = some y := hMo1
          exact ⟨(hS.meet [] (by decide) ⟨rfl, rfl, trivial⟩ trivial ⟨⟨0, rfl⟩, trivial⟩), hM⟩
      · rintro a w ⟨hS, hM⟩
        unfold ref32_Deal_j4 at hM
        refine wp_seq_k fun K76 hK76 => ?_
        refine r_list ?_
        refine wl rfl (ky (v := .int .i64 workers_) hS (y_move hS rfl) rfl rfl fun a hS => ?_)
        obtain ⟨hg733, hM⟩ := gd_some hM
        obtain ⟨hg734, hM⟩ := gd_some hM
        refine wl rfl (k_make (R := R_DequeD) (z0 := (DequeD.mk [])) hS el41 ze26 (by decide) rfl rfl hg733 hg734 (⟨_, rfl, SlR.nil_ _ _ _⟩) rfl fun v735 cl736 a w hk hS => ?_)
        refine wl rfl (ky (v := v735) hS (y_assign hS rfl) rfl rfl fun a hS => ?_)
        refine wpList_nil ?_
        try simp only [Exit.then, Exit.inBlock, ↓reduceIte, Nat.reduceEqDiff]
        refine hK76 _ _ ?_
        refine seq_j (J := fun a w => ∃ (out1053 : (List DequeD)) (v1054 : Value) (cl1055 : (List Value)), St W0 No T 60 [(8, v1054)] [.own v1054 26 R_DequeD.size cl1055] [RowsF R_DequeD cl1055 out1053] a w ∧ ref32_Deal_j1 out1053 = some y) ?_ ?_
        · skip
          refine wp_seq_k fun K93 hK93 => ?_
          refine r_list ?_
          refine wl rfl (ky (v := v1) hS (y_move hS rfl) rfl rfl fun a hS => ?_)
          refine wl rfl (ky (v := .int .i64 (l_0.length : Int)) hS (y_len (R := R_KeyD) (xs := l_0) hS sl24 rfl 1 rfl) rfl rfl fun a hS => ?_)
          refine wl rfl (ky (v := .int .i64 0) hS (y_move hS rfl) rfl rfl fun a hS => ?_)
          refine wpList_nil ?_
          try simp only [Exit.then, Exit.inBlock, ↓reduceIte, Nat.reduceEqDiff]
          refine hK93 _ _ ?_
          refine wp_block ?_
          obtain ⟨r1, hl1, hMo1⟩ := bd hM
          refine wp_lp (fun s : (List DequeD) × Int => ref32_Deal_l3 l_0 workers_ s.1 s.2) (fun s a w => ∃ (out1212 : (List DequeD)) (g1216 : Int) (v1213 : Value) (cl1214 : (List Value)), (out1212, g1216) = s ∧ St W0 No T 60 [(1, .int .i64 workers_), (8, v1213), (31, v1), (32, .int .i64 (l_0.length : Int)), (33, .int .i64 g1216)] [.own v1213 26 R_DequeD.size cl1214] [RowsF R_DequeD cl1214 out1212, SlF R_KeyD v1 l_0] a w) hl1 ⟨(List.replicate (Int.toNat workers_) (DequeD.mk [])), 0, v735, cl736, rfl, (hS.meet [0] (by decide) ⟨rfl, rfl, rfl, rfl, rfl, trivial⟩ ⟨rfl, trivial⟩ ⟨⟨0, rfl⟩, ⟨1, rfl⟩, trivial⟩)⟩ ?_
          rintro s a w f1 ⟨out1212, g1216, v1213, cl1214, rfl, hS⟩ hM hf1
          have hM : ref32_Deal_l3 l_0 workers_ out1212 g1216 = some f1 := hM
          unfold ref32_Deal_l3 at hM
          refine wp_seq_k fun K108 hK108 => ?_
          refine r_list ?_
          refine wl rfl (ky (v := .bool (decide ((g1216 : Int) < (l_0.length : Int)))) hS (y_int hS rfl rfl rfl) rfl rfl fun a hS => ?_)
          refine wpList_nil ?_
          try simp only [Exit.then, Exit.inBlock, ↓reduceIte, Nat.reduceEqDiff]
          refine hK108 _ _ ?_
          refine wp_seq_k fun K109 hK109 => ?_
          rcases bool2 (decide ((g1216 : Int) < (l_0.length : Int))) with hb1372 | hb1372
          · replace hM := ct hb1372 hM
            refine c_t hS rfl hb1372 ?_
            refine wp_skip ?_
            try simp only [Exit.then, Exit.inBlock, ↓reduceIte, Nat.reduceEqDiff]
            refine hK109 _ _ ?_
            refine wp_seq_k fun K110 hK110 => ?_
            refine wp_block ?_
            refine wp_seq_k fun K111 hK111 => ?_
            refine r_list ?_
            refine wl rfl (ky (v := .int .i64 g1216) hS (y_move hS rfl) rfl rfl fun a hS => ?_)
            obtain ⟨e1373, he1373, hM⟩ := bd hM
            refine wl rfl (k_index (R := R_KeyD) hS sl24 ty28 rfl rfl 1 rfl he1373 rfl fun b1374 o1375 cs1377 hr1376 a hS => ?_)
            obtain rfl := hr1376
            refine wl rfl (ky (v := .agg #[.int .i64 e1373.Kind, .string e1373.Text]) hS (y_loadc (k := 0) hS ty28 0 rfl rfl (fun _ h => h.elim) (us := [.int .i64 e1373.Kind, .string e1373.Text]) rfl rfl (fun h => by cases h)) rfl rfl fun a hS => ?_)
            refine wl rfl (k_alloc hS ze28 rfl fun b1379 hnb1381 a w hk hS => ?_)
            refine wl rfl (ky (v := .int .i64 g1216) hS (y_assign hS rfl) rfl rfl fun a hS => ?_)
            refine wl rfl (k_store hS rfl rfl (us := [.int .i64 e1373.Kind, .string e1373.Text]) rfl ty28 0 rfl rfl rfl (oc rfl (oc rfl on)) fun w hk hS => ?_)
            refine wpList_nil ?_
            try simp only [Exit.then, Exit.inBlock, ↓reduceIte, Nat.reduceEqDiff]
            refine hK111 _ _ ?_
            refine seq_j (J := fun a w => ∃ (e1456 : Int) (d1457 : (List KeyD)) (b1454 : Nat) (v1458 : Value) (cl1459 : (List Value)), St W0 No T 60 [(1, .int .i64 workers_), (8, v1213), (9, .int .i64 g1216), (11, .pointer (some ⟨b1454, 0, none⟩)), (12, .int .i64 e1456), (31, v1), (32, .int .i64 (l_0.length : Int)), (33, .int .i64 g1216)] [.own v1213 26 R_DequeD.size cl1214, .own v1458 28 R_KeyD.size cl1459, .box b1454 [v1458] 26] [RowsF R_DequeD cl1214 out1212, SlF R_KeyD v1 l_0, RowsF R_KeyD cl1459 d1457] a w ∧ ref32_Deal_j2 workers_ out1212 g1216 e1456 d1457 = some f1) ?_ ?_
            · skip
              obtain ⟨N1503, hN1503⟩ : ∃ N, N = w.heap.size := ⟨_, rfl⟩
              replace hS := hS.fact (SzF N1503) (Nat.le_of_eq hN1503)
              refine draws [(12, .new N1503)] hS mixed rfl (fun c a d v w h => by cases d <;> exact h) fun w hQ hS => ?_
              refine dy 0 (v := v1213) rfl (by kernel_rfl) (by kernel_rfl) (by kernel_rfl) rfl hQ hS (y_move hS rfl) rfl rfl rfl fun a hS => ?_
              refine dy 1 (v := .int .i64 g1216) rfl (by kernel_rfl) (by kernel_rfl) (by kernel_rfl) rfl hQ hS (y_move hS rfl) rfl rfl rfl fun a hS => ?_
              refine dy 2 (v := .int .i64 workers_) rfl (by kernel_rfl) (by kernel_rfl) (by kernel_rfl) rfl hQ hS (y_move hS rfl) rfl rfl rfl fun a hS => ?_
              obtain ⟨hg1504, hM⟩ := gd_some hM
              refine dy 3 (v := .int .i64 (Int.tmod g1216 workers_)) rfl (by kernel_rfl) (by kernel_rfl) (by kernel_rfl) rfl hQ hS (y_rem hS rfl rfl (bne_iff_ne.1 hg1504)) rfl rfl rfl fun a hS => ?_
              obtain ⟨e1505, he1505, hM⟩ := bd hM
              obtain ⟨b1507, o1508, p1513, cs1510, hr1509, hO1511, hC1512, hy1514⟩ := d_indexo (R := R_DequeD) hS sl41 ty26 1 rfl 2 rfl he1505
              obtain ⟨v1506, rfl, hv1506⟩ := hr1509
              replace hS := hS.fact (SlF R_KeyD v1506 e1505.Keys) hv1506
              refine dy 4 (v := .pointer (some ⟨b1507, o1508, none⟩)) rfl (by kernel_rfl) (by kernel_rfl) (by kernel_rfl) rfl hQ hS (hy1514 rfl rfl) rfl rfl rfl fun a hS => ?_
              refine dy (l := []) 5 (v := .agg #[v1506]) rfl (by kernel_rfl) (by kernel_rfl) (by kernel_rfl) (by kernel_rfl) hQ hS (y_loado (k := 0) hS ty26 1 rfl hO1511 hC1512 rfl eo_nil (us := [v1506]) rfl rfl (fun h => by cases h)) rfl rfl rfl fun a hS => ?_
              refine dy (l := []) 6 (v := .agg #[.int .i64 e1373.Kind, .string e1373.Text]) rfl (by kernel_rfl) (by kernel_rfl) (by kernel_rfl) (by kernel_rfl) hQ hS (y_load hS rfl ty28 0 rfl eo_nil (us := [.int .i64 e1373.Kind, .string e1373.Text]) rfl rfl (fun h => by cases h)) rfl rfl rfl fun a hS => ?_
              obtain ⟨u1515, hu1515, hM⟩ := bd hM
              refine wpE_two (i := 7) (j := 11) rfl rfl (by kernel_rfl) rfl rfl ?_ ?_
              · skip
                refine id (k_call hS ci19 rfl rfl (ref32_Push_c _ _ hS.dlt e1505 e1373 _ (hS.get 0 rfl) _ hu1515) fun _ w hR a hk hA => ⟨stN (hk), ?_⟩)
                obtain ⟨vz1516_2, clz1516_3, he, ⟨hOvz1516_2, hFvz1516_2, hRvz1516_2⟩⟩ := hR
                replace he := he.symm
                subst he
                have hS := hA [.own vz1516_2 28 R_KeyD.size clz1516_3] (adds1 ⟨hOvz1516_2, by decide⟩ hFvz1516_2) (pw1 _)
                replace hS := hS.fact (RowsF R_KeyD clz1516_3 u1515.1.Keys) (hRvz1516_2.keep (Kt.refl _ _) (dT_dT _))
                refine dy 8 (v := .tuple #[.agg #[vz1516_2], .int .i64 u1515.2]) rfl (by kernel_rfl) (by kernel_rfl) (by kernel_rfl) rfl hQ hS (y_move hS rfl) rfl rfl rfl fun a hS => ?_
                refine dy 9 (v := .agg #[vz1516_2]) rfl (by kernel_rfl) (by kernel_rfl) (by kernel_rfl) rfl hQ hS (y_ex hS rfl rfl) rfl rfl rfl fun a hS => ?_
                refine dy 10 (v := .int .i64 u1515.2) rfl (by kernel_rfl) (by kernel_rfl) (by kernel_rfl) rfl hQ hS (y_ex hS rfl rfl) rfl rfl rfl fun a hS => ?_
                have hz1521 := (hS.get 2 rfl : N1503 ≤ w.heap.size)
                refine wpE_one (i := 11) rfl (by kernel_rfl) rfl (k_alloc hS ze26 rfl fun b1518 hnb1520 a w hk hS => ⟨stN (hk), ?_⟩)
                refine wpE_upd 12 (.blk (some b1518)) _ (by kernel_rfl) (etNB (Nat.le_trans hz1521 hnb1520)) ?_
                refine wpE_one (i := 12) rfl (by kernel_rfl) rfl (k_store hS rfl rfl (us := [vz1516_2]) rfl ty26 0 rfl rfl rfl (oc (own_one (hS.own _ (List.mem_of_getElem? (i := 1) rfl)).1) on) fun w hk hS => ⟨stM rfl hk etBox, ?_⟩)
                refine dy 13 (v := .int .i64 u1515.2) rfl (by kernel_rfl) (by kernel_rfl) (by kernel_rfl) rfl hQ hS (y_assign hS rfl) rfl rfl rfl fun a hS => ?_
                refine wpE_done (by kernel_rfl) ?_ _
                try simp only [Exit.then, Exit.inBlock, ↓reduceIte, Nat.reduceEqDiff]
                exact ⟨u1515.2, u1515.1.Keys, b1518, vz1516_2, clz1516_3, (hS.meet [3, 1, 0] (by decide) ⟨rfl, rfl, rfl, rfl, rfl, rfl, rfl, rfl, trivial⟩ ⟨rfl, rfl, rfl, trivial⟩ ⟨⟨4, rfl⟩, ⟨5, rfl⟩, ⟨0, rfl⟩, trivial⟩), hM⟩
              · skip
                have hz1519 := (hS.get 1 rfl : N1503 ≤ w.heap.size)
                refine id (k_alloc hS ze26 rfl fun b1516 hnb1518 a w hk hS => ⟨stN (hk), ?_⟩)
                refine wpE_upd 12 (.blk (some b1516)) _ (by kernel_rfl) (etNB (Nat.le_trans hz1519 hnb1518)) ?_
                refine wpE_one (i := 7) rfl (by kernel_rfl) rfl (k_call hS ci19 rfl rfl (ref32_Push_c _ _ hS.dlt e1505 e1373 _ (hS.get 0 rfl) _ hu1515) fun _ w hR a hk hA => ⟨stN (hk), ?_⟩)
                obtain ⟨vz1520_2, clz1520_3, he, ⟨hOvz1520_2, hFvz1520_2, hRvz1520_2⟩⟩ := hR
                replace he := he.symm
                subst he
                have hS := hA [.own vz1520_2 28 R_KeyD.size clz1520_3] (adds1 ⟨hOvz1520_2, by decide⟩ hFvz1520_2) (pw1 _)
                replace hS := hS.fact (RowsF R_KeyD clz1520_3 u1515.1.Keys) (hRvz1520_2.keep (Kt.refl _ _) (dT_dT _))
                refine dy 8 (v := .tuple #[.agg #[vz1520_2], .int .i64 u1515.2]) rfl (by kernel_rfl) (by kernel_rfl) (by kernel_rfl) rfl hQ hS (y_move hS rfl) rfl rfl rfl fun a hS => ?_
                refine dy 9 (v := .agg #[vz1520_2]) rfl (by kernel_rfl) (by kernel_rfl) (by kernel_rfl) rfl hQ hS (y_ex hS rfl rfl) rfl rfl rfl fun a hS => ?_
                refine dy 10 (v := .int .i64 u1515.2) rfl (by kernel_rfl) (by kernel_rfl) (by kernel_rfl) rfl hQ hS (y_ex hS rfl rfl) rfl rfl rfl fun a hS => ?_
                refine wpE_one (i := 12) rfl (by kernel_rfl) rfl (k_store hS rfl rfl (us := [vz1520_2]) rfl ty26 1 rfl rfl rfl (oc (own_one (hS.own _ (List.mem_of_getElem? (i := 0) rfl)).1) on) fun w hk hS => ⟨stM rfl hk etBox, ?_⟩)
                refine dy 13 (v := .int .i64 u1515.2) rfl (by kernel_rfl) (by kernel_rfl) (by kernel_rfl) rfl hQ hS (y_assign hS rfl) rfl rfl rfl fun a hS => ?_
                refine wpE_done (by kernel_rfl) ?_ _
                try simp only [Exit.then, Exit.inBlock, ↓reduceIte, Nat.reduceEqDiff]
                exact ⟨u1515.2, u1515.1.Keys, b1516, vz1520_2, clz1520_3, (hS.meet [3, 0, 1] (by decide) ⟨rfl, rfl, rfl, rfl, rfl, rfl, rfl, rfl, trivial⟩ ⟨rfl, rfl, rfl, trivial⟩ ⟨⟨4, rfl⟩, ⟨5, rfl⟩, ⟨0, rfl⟩, trivial⟩), hM⟩
            · rintro a w ⟨e1456, d1457, b1454, v1458, cl1459, hS, hM⟩
              unfold ref32_Deal_j2 at hM
              refine wp_seq_k fun K112 hK112 => ?_
              refine wp_seq_k fun K113 hK113 => ?_
              refine r_list ?_
              refine wl rfl (ky (v := .int .i64 e1456) hS (y_move hS rfl) rfl rfl fun a hS => ?_)
              refine wl rfl (ky (v := .bool ((e1456 : Int) != 0)) hS (y_int hS rfl rfl rfl) rfl rfl fun a hS => ?_)
              refine wpList_nil ?_
              try simp only [Exit.then, Exit.inBlock, ↓reduceIte, Nat.reduceEqDiff]
              refine hK113 _ _ ?_
              rcases bool2 ((e1456 : Int) != 0) with hb1461 | hb1461
              · replace hM := ct hb1461 hM
                refine c_t hS rfl hb1461 ?_
                refine wp_seq_k fun K114 hK114 => ?_
                refine r_list ?_
                refine wl rfl (ky (v := .int .i64 e1456) hS (y_move hS rfl) rfl rfl fun a hS => ?_)
                refine wl rfl (ky (v := .slice none 0 0) hS (y_assign hS rfl) rfl rfl fun a hS => ?_)
                refine wl rfl (ky (v := .int .i64 e1456) hS (y_assign hS rfl) rfl rfl fun a hS => ?_)
                refine wpList_nil ?_
                try simp only [Exit.then, Exit.inBlock, ↓reduceIte, Nat.reduceEqDiff]
                refine hK114 _ _ ?_
                refine wp_ret ?_
                injection hM with hM
                subst hM
                have hr := hf1 _ rfl
                subst hr
                replace hMo1 := el_out hMo1
                have hM := hMo1
                injection hM with hM
                subst hM
                try simp only [Exit.then, Exit.inBlock, ↓reduceIte, Nat.reduceEqDiff]
                refine ret_ok hS Tryd.results25 (res_tmp hS rfl (res_tmp hS rfl res_nil)) ?_
                exact ⟨.slice none 0 0, [], rfl, ret_nil _ _ _ _ _ _⟩
              · replace hM := cf hb1461 hM
                refine c_f hS rfl hb1461 ?_
                refine wp_skip ?_
                try simp only [Exit.then, Exit.inBlock, ↓reduceIte, Nat.reduceEqDiff]
                refine hK112 _ _ ?_
                refine draws [(6, .blk (Value.ownBlock v1213))] hS mixed rfl (fun c a d v w h => by cases d <;> exact h) fun w hQ hS => ?_
                refine dy 0 (v := v1213) rfl (by kernel_rfl) (by kernel_rfl) (by kernel_rfl) rfl hQ hS (y_move hS rfl) rfl rfl rfl fun a hS => ?_
                refine dy 1 (v := .int .i64 g1216) rfl (by kernel_rfl) (by kernel_rfl) (by kernel_rfl) rfl hQ hS (y_move hS rfl) rfl rfl rfl fun a hS => ?_
                refine dy 2 (v := .int .i64 workers_) rfl (by kernel_rfl) (by kernel_rfl) (by kernel_rfl) rfl hQ hS (y_move hS rfl) rfl rfl rfl fun a hS => ?_
                obtain ⟨hg1474, hM⟩ := gd_some hM
                refine dy 3 (v := .int .i64 (Int.tmod g1216 workers_)) rfl (by kernel_rfl) (by kernel_rfl) (by kernel_rfl) rfl hQ hS (y_rem hS rfl rfl (bne_iff_ne.1 hg1474)) rfl rfl rfl fun a hS => ?_
                refine dy (l := []) 4 (v := .agg #[v1458]) rfl (by kernel_rfl) (by kernel_rfl) (by kernel_rfl) (by kernel_rfl) hQ hS (y_load hS rfl ty26 2 rfl eo_nil (us := [v1458]) rfl rfl (fun h => by cases h)) rfl rfl rfl fun a hS => ?_
                obtain ⟨e1475, he1475, hM⟩ := bd hM
                obtain ⟨b1477, o1478, p1483, cs1480, hr1479, hO1481, hC1482, hy1484⟩ := d_indexo (R := R_DequeD) hS sl41 ty26 0 rfl 0 rfl he1475
                obtain ⟨v1476, rfl, hv1476⟩ := hr1479
                replace hS := hS.fact (SlF R_KeyD v1476 e1475.Keys) hv1476
                refine dy 5 (v := .pointer (some ⟨b1477, o1478, none⟩)) rfl (by kernel_rfl) (by kernel_rfl) (by kernel_rfl) rfl hQ hS (hy1484 rfl rfl) rfl rfl rfl fun a hS => ?_
                replace hS := hS.freeze (R := R_KeyD) 1 rfl 3 rfl
                refine wpE_one (i := 6) rfl (by kernel_rfl) rfl (k_storeo (R := R_DequeD) (k := 0) (cs := [v1476]) (us := [v1458]) (x' := (DequeD.mk d1457)) hS rfl rfl rfl ty26 0 rfl 2 rfl hO1481 hC1482 he1475 (⟨_, rfl, (hS.get 1 rfl)⟩) rfl rfl (⟨_, rfl, (hS.get 0 rfl)⟩) fun cl1485 w hk hS => ⟨stM rfl hk etOwn, ?_⟩)
                refine wpE_done (by kernel_rfl) ?_ _
                try simp only [Exit.then, Exit.inBlock, ↓reduceIte, Nat.reduceEqDiff]
                refine hK110 _ _ ?_
                refine r_list ?_
                refine wl rfl (ky (v := .int .i64 (IntKind.i64.wrap (g1216 + 1))) hS (y_int hS rfl rfl rfl) rfl rfl fun a hS => ?_)
                refine wl rfl (ky (v := .int .i64 (IntKind.i64.wrap (g1216 + 1))) hS (y_move hS rfl) rfl rfl fun a hS => ?_)
                refine wpList_nil ?_
                try simp only [Exit.then, Exit.inBlock, ↓reduceIte, Nat.reduceEqDiff]
                exact ⟨((out1212.set (Int.toNat (Int.tmod g1216 workers_)) (DequeD.mk d1457)), IntKind.i64.wrap (g1216 + 1)), (Option.some.inj hM).symm, (out1212.set (Int.toNat (Int.tmod g1216 workers_)) (DequeD.mk d1457)), (IntKind.i64.wrap (g1216 + 1)), v1213, cl1485, rfl, (hS.meet [0] (by decide) ⟨rfl, rfl, rfl, rfl, rfl, trivial⟩ ⟨rfl, trivial⟩ ⟨⟨0, rfl⟩, ⟨4, rfl⟩, trivial⟩)⟩
          · replace hM := cf hb1372 hM
            refine c_f hS rfl hb1372 ?_
            refine wp_exit ?_
            try simp only [Exit.then, Exit.inBlock, ↓reduceIte, Nat.reduceEqDiff]
            injection hM with hM
            subst hM
            have hr := hf1 _ rfl
            subst hr
            replace hMo1 := el_go hMo1
            have hM : ref32_Deal_j1 out1212 = some y := hMo1
            exact ⟨out1212, v1213, cl1214, (hS.meet [0] (by decide) ⟨rfl, trivial⟩ ⟨rfl, trivial⟩ ⟨⟨0, rfl⟩, trivial⟩), hM⟩
        · rintro a w ⟨out1053, v1054, cl1055, hS, hM⟩
          unfold ref32_Deal_j1 at hM
          refine wp_seq_k fun K92 hK92 => ?_
          refine r_list ?_
          refine wl rfl (ky (v := v1054) hS (y_move hS rfl) rfl rfl fun a hS => ?_)
          refine wl rfl (ky (v := v1054) hS (y_assign hS rfl) rfl rfl fun a hS => ?_)
          refine wl rfl (ky (v := .int .i64 0) hS (y_assign hS rfl) rfl rfl fun a hS => ?_)
          refine wpList_nil ?_
          try simp only [Exit.then, Exit.inBlock, ↓reduceIte, Nat.reduceEqDiff]
          refine hK92 _ _ ?_
          refine wp_ret ?_
          injection hM with hM
          subst hM
          try simp only [Exit.then, Exit.inBlock, ↓reduceIte, Nat.reduceEqDiff]
          refine ret_ok hS Tryd.results25 (res_tmp hS rfl (res_tmp hS rfl res_nil)) ?_
          exact ⟨v1054, cl1055, rfl, hS.retOwn ⟨.inr (List.mem_of_getElem? (i := 0) rfl), trivial⟩ 0 rfl 0 rfl⟩

noncomputable def law32_awake_j1 (g262 : Bool) : Option Bool := some (g262)
noncomputable def law32_awake_j2 (d202 : (List KeyD)) : Option Bool := (deque_Steal (DequeD.mk d202)).bind fun u206 => (deque_Pop (DequeD.mk u206.1.Keys)).bind fun u212 => cond u206.2.2 (cond u212.2.2 ((ref23_Cell 1).bind fun u276 => cond ((u206.2.1.Kind : Int) == u276.Kind && u206.2.1.Text.toList == u276.Text.toList) ((ref23_Cell 3).bind fun u279 => cond ((u212.2.1.Kind : Int) == u279.Kind && u212.2.1.Text.toList == u279.Text.toList) (cond (((u212.1.Keys.length : Int) : Int) == 1) ((deque_Valid (DequeD.mk u212.1.Keys)).bind fun u283 => law32_awake_j1 u283) (law32_awake_j1 false)) (law32_awake_j1 false)) (law32_awake_j1 false)) (law32_awake_j1 false)) (law32_awake_j1 false)
noncomputable def law32_awake_l3 (n301 : Int) (d302 : (List KeyD)) : Option (Fl (Int × (List KeyD)) ((List KeyD))) := cond (decide ((n301 : Int) < 4)) ((ref23_Cell n301).bind fun u329 => (deque_Push (DequeD.mk d302) u329).bind fun u331 => some (.go (IntKind.i64.wrap (n301 + 1), u331.1.Keys))) (some (.out d302))
noncomputable def law32_awake : Option Bool := (loop (fun s : Int × (List KeyD) => law32_awake_l3 s.1 s.2) (1, ([] : List KeyD))).bind fun r => law32_awake_j2 r
set_option maxRecDepth 100000 in
set_option maxHeartbeats 4000000 in
theorem law32_awake_c (T : Nat → Prop) (W0 : World) (hT : ∀ k, T k → k < W0.heap.size) (hLv : LvP T W0) (y : Bool) (hM : law32_awake = some y) : Rets Tryd.prog No 12 [] W0 (fun v w' => v = .bool y) := by
  refine enter (c := _) Tryd.func12 rfl T 54 Tryd.ntmps12 hT rfl fun a hS => ?_
  replace hS := hS.fact LvF (LvP.dn hLv)
  unfold law32_awake at hM
  refine wp_seq_k fun K19 hK19 => ?_
  refine r_list ?_
  refine wl rfl (ky (v := .bool false) hS (y_assign hS rfl) rfl rfl fun a hS => ?_)
  refine wpList_nil ?_
  try simp only [Exit.then, Exit.inBlock, ↓reduceIte, Nat.reduceEqDiff]
  refine hK19 _ _ ?_
  refine wp_seq_k fun K20 hK20 => ?_
  refine r_list ?_
  refine wl rfl (k_alloc hS ze26 rfl fun b162 hnb164 a w hk hS => ?_)
  refine wpList_nil ?_
  try simp only [Exit.then, Exit.inBlock, ↓reduceIte, Nat.reduceEqDiff]
  refine hK20 _ _ ?_
  refine seq_j (J := fun a w => ∃ (d202 : (List KeyD)) (v203 : Value) (cl204 : (List Value)), St W0 No T 54 [(1, .pointer (some ⟨b162, 0, none⟩))] [.own v203 28 R_KeyD.size cl204, .box b162 [v203] 26] [RowsF R_KeyD cl204 d202, LvF] a w ∧ law32_awake_j2 d202 = some y) ?_ ?_
  · skip
    refine wp_seq_k fun K30 hK30 => ?_
    refine r_list ?_
    refine wl rfl (ky (v := .int .i64 1) hS (y_assign hS rfl) rfl rfl fun a hS => ?_)
    refine wpList_nil ?_
    try simp only [Exit.then, Exit.inBlock, ↓reduceIte, Nat.reduceEqDiff]
    refine hK30 _ _ ?_
    refine wp_block ?_
    replace hS := hS.nilRow R_KeyD 28 (by decide)
    obtain ⟨r1, hl1, hMo1⟩ := bd hM
    refine wp_lp (fun s : Int × (List KeyD) => law32_awake_l3 s.1 s.2) (fun s a w => ∃ (n301 : Int) (d302 : (List KeyD)) (v303 : Value) (cl304 : (List Value)), (n301, d302) = s ∧ St W0 No T 54 [(1, .pointer (some ⟨b162, 0, none⟩)), (2, .int .i64 n301)] [.own v303 28 R_KeyD.size cl304, .box b162 [v303] 26] [RowsF R_KeyD cl304 d302, LvF] a w) hl1 ⟨1, ([] : List KeyD), (.slice none 0 0), ([]), rfl, (hS.meet [0, 1] (by decide) ⟨rfl, rfl, trivial⟩ ⟨rfl, rfl, trivial⟩ ⟨⟨0, rfl⟩, ⟨1, rfl⟩, trivial⟩)⟩ ?_
    rintro s a w f1 ⟨n301, d302, v303, cl304, rfl, hS⟩ hM hf1
    have hM : law32_awake_l3 n301 d302 = some f1 := hM
    unfold law32_awake_l3 at hM
    refine wp_seq_k fun K37 hK37 => ?_
    refine wp_seq_k fun K38 hK38 => ?_
    refine r_list ?_
    refine wl rfl (ky (v := .int .i64 n301) hS (y_move hS rfl) rfl rfl fun a hS => ?_)
    refine wl rfl (ky (v := .bool (decide ((n301 : Int) < 4))) hS (y_int hS rfl rfl rfl) rfl rfl fun a hS => ?_)
    refine wpList_nil ?_
    try simp only [Exit.then, Exit.inBlock, ↓reduceIte, Nat.reduceEqDiff]
    refine hK38 _ _ ?_
    rcases bool2 (decide ((n301 : Int) < 4)) with hb323 | hb323
    · replace hM := ct hb323 hM
      refine c_t hS rfl hb323 ?_
      refine wp_skip ?_
      try simp only [Exit.then, Exit.inBlock, ↓reduceIte, Nat.reduceEqDiff]
      refine hK37 _ _ ?_
      refine wp_seq_k fun K39 hK39 => ?_
      refine wp_block ?_
      refine draws [(7, .blk (some b162))] hS mixed rfl (fun c a d v w h => by cases d <;> exact h) fun w hQ hS => ?_
      refine dy (l := []) 0 (v := .agg #[v303]) rfl (by kernel_rfl) (by kernel_rfl) (by kernel_rfl) (by kernel_rfl) hQ hS (y_load hS rfl ty26 1 rfl eo_nil (us := [v303]) rfl rfl (fun h => by cases h)) rfl rfl rfl fun a hS => ?_
      refine dy 1 (v := .int .i64 n301) rfl (by kernel_rfl) (by kernel_rfl) (by kernel_rfl) rfl hQ hS (y_move hS rfl) rfl rfl rfl fun a hS => ?_
      obtain ⟨u329, hu329, hM⟩ := bd hM
      refine wpE_one (i := 2) rfl (by kernel_rfl) rfl (k_call hS ci16 rfl rfl (ref23_Cell_c _ _ hS.dlt (hS.get 1 rfl) n301 _ hu329) fun _ w hR a hk hA => ⟨stN (hk), ?_⟩)
      have he := Eq.symm hR
      subst he
      have hS := hA [] (fun r hr => by cases hr) List.Pairwise.nil
      have hL := hS
      replace hL := hL.freeze (R := R_KeyD) 0 rfl 0 rfl
      obtain ⟨u331, hu331, hM⟩ := bd hM
      refine wpE_one (i := 3) rfl (by kernel_rfl) rfl (k_call hS ci15 rfl rfl (deque_Push_c _ _ hL.dlt (hL.get 2 rfl) (DequeD.mk d302) u329 _ (hL.get 0 rfl) _ hu331) fun _ w hR a hk hA => ⟨stN (hk), ?_⟩)
      obtain ⟨vz332_2, clz332_3, he, ⟨hOvz332_2, hFvz332_2, hRvz332_2⟩⟩ := hR
      replace he := he.symm
      subst he
      have hS := hA [.own vz332_2 28 R_KeyD.size clz332_3] (adds1 ⟨hOvz332_2, by decide⟩ hFvz332_2) (pw1 _)
      replace hS := hS.fact (RowsF R_KeyD clz332_3 u331.1.Keys) hRvz332_2
      refine dy 4 (v := .tuple #[.agg #[vz332_2], .int .i64 u331.2]) rfl (by kernel_rfl) (by kernel_rfl) (by kernel_rfl) rfl hQ hS (y_move hS rfl) rfl rfl rfl fun a hS => ?_
      refine dy 5 (v := .agg #[vz332_2]) rfl (by kernel_rfl) (by kernel_rfl) (by kernel_rfl) rfl hQ hS (y_ex hS rfl rfl) rfl rfl rfl fun a hS => ?_
      refine dy 6 (v := .int .i64 u331.2) rfl (by kernel_rfl) (by kernel_rfl) (by kernel_rfl) rfl hQ hS (y_ex hS rfl rfl) rfl rfl rfl fun a hS => ?_
      refine wpE_one (i := 7) rfl (by kernel_rfl) rfl (k_store hS rfl rfl (us := [vz332_2]) rfl ty26 2 rfl rfl rfl (oc (own_one (hS.own _ (List.mem_of_getElem? (i := 0) rfl)).1) on) fun w hk hS => ⟨stM rfl hk etBox, ?_⟩)
      refine wpE_done (by kernel_rfl) ?_ _
      try simp only [Exit.then, Exit.inBlock, ↓reduceIte, Nat.reduceEqDiff]
      refine hK39 _ _ ?_
      refine r_list ?_
      refine wl rfl (ky (v := .int .i64 n301) hS (y_move hS rfl) rfl rfl fun a hS => ?_)
      refine wl rfl (ky (v := .int .i64 (IntKind.i64.wrap (n301 + 1))) hS (y_int hS rfl rfl rfl) rfl rfl fun a hS => ?_)
      refine wl rfl (ky (v := .int .i64 (IntKind.i64.wrap (n301 + 1))) hS (y_assign hS rfl) rfl rfl fun a hS => ?_)
      refine wpList_nil ?_
      try simp only [Exit.then, Exit.inBlock, ↓reduceIte, Nat.reduceEqDiff]
      exact ⟨(IntKind.i64.wrap (n301 + 1), u331.1.Keys), (Option.some.inj hM).symm, (IntKind.i64.wrap (n301 + 1)), u331.1.Keys, vz332_2, clz332_3, rfl, (hS.meet [0, 2] (by decide) ⟨rfl, rfl, trivial⟩ ⟨rfl, rfl, trivial⟩ ⟨⟨0, rfl⟩, ⟨2, rfl⟩, trivial⟩)⟩
    · replace hM := cf hb323 hM
      refine c_f hS rfl hb323 ?_
      refine wp_exit ?_
      try simp only [Exit.then, Exit.inBlock, ↓reduceIte, Nat.reduceEqDiff]
      injection hM with hM
      subst hM
      have hr := hf1 _ rfl
      subst hr
      have hM : law32_awake_j2 d302 = some y := hMo1
      exact ⟨d302, v303, cl304, (hS.meet [0, 1] (by decide) ⟨rfl, trivial⟩ ⟨rfl, rfl, trivial⟩ ⟨⟨0, rfl⟩, ⟨1, rfl⟩, trivial⟩), hM⟩
  · rintro a w ⟨d202, v203, cl204, hS, hM⟩
    unfold law32_awake_j2 at hM
    refine wp_seq_k fun K28 hK28 => ?_
    refine r_list ?_
    refine wl rfl (ky (v := .agg #[v203]) hS (y_load hS rfl ty26 1 rfl id (us := [v203]) rfl rfl (fun h => by cases h)) rfl rfl fun a hS => ?_)
    have hL := hS
    replace hL := hL.freeze (R := R_KeyD) 0 rfl 0 rfl
    obtain ⟨u206, hu206, hM⟩ := bd hM
    refine wl rfl (k_call hS ci14 rfl rfl (deque_Steal_c _ _ hL.dlt (DequeD.mk d202) _ (hL.get 0 rfl) _ hu206) fun _ w hR a hk hA => ?_)
    obtain ⟨vz207_2, clz207_3, he, ⟨hOvz207_2, hFvz207_2, hRvz207_2⟩⟩ := hR
    replace he := he.symm
    subst he
    have hS := hA [.own vz207_2 28 R_KeyD.size clz207_3] (adds1 ⟨hOvz207_2, by decide⟩ hFvz207_2) (pw1 _)
    replace hS := hS.fact (RowsF R_KeyD clz207_3 u206.1.Keys) hRvz207_2
    refine wl rfl (ky (v := .tuple #[.agg #[vz207_2], .agg #[.int .i64 u206.2.1.Kind, .string u206.2.1.Text], .bool u206.2.2]) hS (y_move hS rfl) rfl rfl fun a hS => ?_)
    refine wl rfl (ky (v := .agg #[vz207_2]) hS (y_ex hS rfl rfl) rfl rfl fun a hS => ?_)
    refine wl rfl (ky (v := .agg #[.int .i64 u206.2.1.Kind, .string u206.2.1.Text]) hS (y_ex hS rfl rfl) rfl rfl fun a hS => ?_)
    refine wl rfl (ky (v := .bool u206.2.2) hS (y_ex hS rfl rfl) rfl rfl fun a hS => ?_)
    refine wl rfl (k_alloc hS ze28 rfl fun b209 hnb211 a w hk hS => ?_)
    refine wl rfl (k_store hS rfl rfl (us := [vz207_2]) rfl ty26 3 rfl rfl rfl (oc (own_one (hS.own _ (List.mem_of_getElem? (i := 1) rfl)).1) on) fun w hk hS => ?_)
    refine wl rfl (k_store hS rfl rfl (us := [.int .i64 u206.2.1.Kind, .string u206.2.1.Text]) rfl ty28 0 rfl rfl rfl (oc rfl (oc rfl on)) fun w hk hS => ?_)
    refine wl rfl (ky (v := .bool u206.2.2) hS (y_assign hS rfl) rfl rfl fun a hS => ?_)
    refine wpList_nil ?_
    try simp only [Exit.then, Exit.inBlock, ↓reduceIte, Nat.reduceEqDiff]
    refine hK28 _ _ ?_
    refine wp_seq_k fun K29 hK29 => ?_
    refine r_list ?_
    refine wl rfl (ky (v := .agg #[vz207_2]) hS (y_load hS rfl ty26 3 rfl id (us := [vz207_2]) rfl rfl (fun h => by cases h)) rfl rfl fun a hS => ?_)
    have hL := hS
    replace hL := hL.freeze (R := R_KeyD) 1 rfl 0 rfl
    obtain ⟨u212, hu212, hM⟩ := bd hM
    refine wl rfl (k_call hS ci13 rfl rfl (deque_Pop_c _ _ hL.dlt (DequeD.mk u206.1.Keys) _ (hL.get 0 rfl) _ hu212) fun _ w hR a hk hA => ?_)
    obtain ⟨vz213_2, clz213_3, he, ⟨hOvz213_2, hFvz213_2, hRvz213_2⟩⟩ := hR
    replace he := he.symm
    subst he
    have hS := hA [.own vz213_2 28 R_KeyD.size clz213_3] (adds1 ⟨hOvz213_2, by decide⟩ hFvz213_2) (pw1 _)
    replace hS := hS.fact (RowsF R_KeyD clz213_3 u212.1.Keys) hRvz213_2
    refine wl rfl (ky (v := .tuple #[.agg #[vz213_2], .agg #[.int .i64 u212.2.1.Kind, .string u212.2.1.Text], .bool u212.2.2]) hS (y_move hS rfl) rfl rfl fun a hS => ?_)
    refine wl rfl (ky (v := .agg #[vz213_2]) hS (y_ex hS rfl rfl) rfl rfl fun a hS => ?_)
    refine wl rfl (ky (v := .agg #[.int .i64 u212.2.1.Kind, .string u212.2.1.Text]) hS (y_ex hS rfl rfl) rfl rfl fun a hS => ?_)
    refine wl rfl (ky (v := .bool u212.2.2) hS (y_ex hS rfl rfl) rfl rfl fun a hS => ?_)
    refine wl rfl (k_alloc hS ze28 rfl fun b215 hnb217 a w hk hS => ?_)
    refine wl rfl (k_store hS rfl rfl (us := [vz213_2]) rfl ty26 5 rfl rfl rfl (oc (own_one (hS.own _ (List.mem_of_getElem? (i := 1) rfl)).1) on) fun w hk hS => ?_)
    refine wl rfl (k_store hS rfl rfl (us := [.int .i64 u212.2.1.Kind, .string u212.2.1.Text]) rfl ty28 0 rfl rfl rfl (oc rfl (oc rfl on)) fun w hk hS => ?_)
    refine wl rfl (ky (v := .bool u212.2.2) hS (y_assign hS rfl) rfl rfl fun a hS => ?_)
    refine wpList_nil ?_
    try simp only [Exit.then, Exit.inBlock, ↓reduceIte, Nat.reduceEqDiff]
    refine hK29 _ _ ?_
    refine seq_j (J := fun a w => ∃ (g262 : Bool), St W0 No T 54 [(0, .bool g262)] [] [LvF] a w ∧ law32_awake_j1 g262 = some y) ?_ ?_
    · skip
      refine draws [] hS mixed rfl (fun c a d v w h => by cases d <;> exact h) fun w hQ hS => ?_
      refine dy 0 (v := .bool u206.2.2) rfl (by kernel_rfl) (by kernel_rfl) (by kernel_rfl) rfl hQ hS (y_move hS rfl) rfl rfl rfl fun a hS => ?_
      refine dy 1 (v := .bool u206.2.2) rfl (by kernel_rfl) (by kernel_rfl) (by kernel_rfl) rfl hQ hS (y_move hS rfl) rfl rfl rfl fun a hS => ?_
      rcases bool2 (u206.2.2) with hb274 | hb274
      · replace hM := ct hb274 hM
        refine dyg 2 (v := .bool u212.2.2) rfl (by kernel_rfl) (by kernel_rfl) (by kernel_rfl) rfl hQ hS (y_move hS rfl) rfl rfl rfl hb274 rfl rfl fun a hS => ?_
        refine dy 3 (v := .bool u212.2.2) rfl (by kernel_rfl) (by kernel_rfl) (by kernel_rfl) rfl hQ hS (y_pickt hS rfl hb274 rfl) rfl rfl rfl fun a hS => ?_
        refine dy 4 (v := .bool u212.2.2) rfl (by kernel_rfl) (by kernel_rfl) (by kernel_rfl) rfl hQ hS (y_move hS rfl) rfl rfl rfl fun a hS => ?_
        rcases bool2 (u212.2.2) with hb275 | hb275
        · replace hM := ct hb275 hM
          refine dyg (l := []) 5 (v := .agg #[.int .i64 u206.2.1.Kind, .string u206.2.1.Text]) rfl (by kernel_rfl) (by kernel_rfl) (by kernel_rfl) (by kernel_rfl) hQ hS (y_load hS rfl ty28 2 rfl eo_nil (us := [.int .i64 u206.2.1.Kind, .string u206.2.1.Text]) rfl rfl (fun h => by cases h)) rfl rfl rfl hb275 rfl rfl fun a hS => ?_
          obtain ⟨u276, hu276, hM⟩ := bd hM
          refine wpE_oneg (i := 6) rfl (by kernel_rfl) hS rfl rfl rfl hb275 (k_call hS ci16 rfl rfl (ref23_Cell_c _ _ hS.dlt (hS.get 3 rfl) 1 _ hu276) fun _ w hR a hk hA => ⟨stN (hk), ?_⟩)
          have he := Eq.symm hR
          subst he
          have hS := hA [] (fun r hr => by cases hr) List.Pairwise.nil
          refine dyg 7 (v := .bool ((u206.2.1.Kind : Int) == u276.Kind && u206.2.1.Text.toList == u276.Text.toList)) rfl (by kernel_rfl) (by kernel_rfl) (by kernel_rfl) rfl hQ hS (eq28 hS rfl rfl) rfl rfl rfl hb275 rfl rfl fun a hS => ?_
          refine dy 8 (v := .bool ((u206.2.1.Kind : Int) == u276.Kind && u206.2.1.Text.toList == u276.Text.toList)) rfl (by kernel_rfl) (by kernel_rfl) (by kernel_rfl) rfl hQ hS (y_pickt hS rfl hb275 rfl) rfl rfl rfl fun a hS => ?_
          refine dy 9 (v := .bool ((u206.2.1.Kind : Int) == u276.Kind && u206.2.1.Text.toList == u276.Text.toList)) rfl (by kernel_rfl) (by kernel_rfl) (by kernel_rfl) rfl hQ hS (y_move hS rfl) rfl rfl rfl fun a hS => ?_
          rcases bool2 ((u206.2.1.Kind : Int) == u276.Kind && u206.2.1.Text.toList == u276.Text.toList) with hb278 | hb278
          · replace hM := ct hb278 hM
            refine dyg (l := []) 10 (v := .agg #[.int .i64 u212.2.1.Kind, .string u212.2.1.Text]) rfl (by kernel_rfl) (by kernel_rfl) (by kernel_rfl) (by kernel_rfl) hQ hS (y_load hS rfl ty28 0 rfl eo_nil (us := [.int .i64 u212.2.1.Kind, .string u212.2.1.Text]) rfl rfl (fun h => by cases h)) rfl rfl rfl hb278 rfl rfl fun a hS => ?_
            obtain ⟨u279, hu279, hM⟩ := bd hM
            refine wpE_oneg (i := 11) rfl (by kernel_rfl) hS rfl rfl rfl hb278 (k_call hS ci16 rfl rfl (ref23_Cell_c _ _ hS.dlt (hS.get 3 rfl) 3 _ hu279) fun _ w hR a hk hA => ⟨stN (hk), ?_⟩)
            have he := Eq.symm hR
            subst he
            have hS := hA [] (fun r hr => by cases hr) List.Pairwise.nil
            refine dyg 12 (v := .bool ((u212.2.1.Kind : Int) == u279.Kind && u212.2.1.Text.toList == u279.Text.toList)) rfl (by kernel_rfl) (by kernel_rfl) (by kernel_rfl) rfl hQ hS (eq28 hS rfl rfl) rfl rfl rfl hb278 rfl rfl fun a hS => ?_
            refine dy 13 (v := .bool ((u212.2.1.Kind : Int) == u279.Kind && u212.2.1.Text.toList == u279.Text.toList)) rfl (by kernel_rfl) (by kernel_rfl) (by kernel_rfl) rfl hQ hS (y_pickt hS rfl hb278 rfl) rfl rfl rfl fun a hS => ?_
            refine dy 14 (v := .bool ((u212.2.1.Kind : Int) == u279.Kind && u212.2.1.Text.toList == u279.Text.toList)) rfl (by kernel_rfl) (by kernel_rfl) (by kernel_rfl) rfl hQ hS (y_move hS rfl) rfl rfl rfl fun a hS => ?_
            rcases bool2 ((u212.2.1.Kind : Int) == u279.Kind && u212.2.1.Text.toList == u279.Text.toList) with hb281 | hb281
            · replace hM := ct hb281 hM
              refine dyg 15 (v := .pointer (some ⟨b162, 0 + 0, none⟩)) rfl (by kernel_rfl) (by kernel_rfl) (by kernel_rfl) rfl hQ hS (y_fld hS rfl fl26_0) rfl rfl rfl hb281 rfl rfl fun a hS => ?_
              refine dyg (l := []) 16 (v := vz213_2) rfl (by kernel_rfl) (by kernel_rfl) (by kernel_rfl) (by kernel_rfl) hQ hS (y_load hS rfl ty24 5 rfl eo_nil (us := [vz213_2]) rfl rfl (fun _ => rfl)) rfl rfl rfl hb281 rfl rfl fun a hS => ?_
              refine dyg 17 (v := .int .i64 (u212.1.Keys.length : Int)) rfl (by kernel_rfl) (by kernel_rfl) (by kernel_rfl) rfl hQ hS (y_leno (R := R_KeyD) (xs := u212.1.Keys) hS sl24 rfl 1 rfl 0 rfl) rfl rfl rfl hb281 rfl rfl fun a hS => ?_
              refine dyg 18 (v := .bool (((u212.1.Keys.length : Int) : Int) == 1)) rfl (by kernel_rfl) (by kernel_rfl) (by kernel_rfl) rfl hQ hS (y_int hS rfl rfl rfl) rfl rfl rfl hb281 rfl rfl fun a hS => ?_
              refine dy 19 (v := .bool (((u212.1.Keys.length : Int) : Int) == 1)) rfl (by kernel_rfl) (by kernel_rfl) (by kernel_rfl) rfl hQ hS (y_pickt hS rfl hb281 rfl) rfl rfl rfl fun a hS => ?_
              refine dy 20 (v := .bool (((u212.1.Keys.length : Int) : Int) == 1)) rfl (by kernel_rfl) (by kernel_rfl) (by kernel_rfl) rfl hQ hS (y_move hS rfl) rfl rfl rfl fun a hS => ?_
              rcases bool2 (((u212.1.Keys.length : Int) : Int) == 1) with hb282 | hb282
              · replace hM := ct hb282 hM
                refine dyg (l := []) 21 (v := .agg #[vz213_2]) rfl (by kernel_rfl) (by kernel_rfl) (by kernel_rfl) (by kernel_rfl) hQ hS (y_load hS rfl ty26 5 rfl eo_nil (us := [vz213_2]) rfl rfl (fun h => by cases h)) rfl rfl rfl hb282 rfl rfl fun a hS => ?_
                have hL := hS
                replace hL := hL.freeze (R := R_KeyD) 1 rfl 0 rfl
                obtain ⟨u283, hu283, hM⟩ := bd hM
                refine wpE_oneg (i := 22) rfl (by kernel_rfl) hS rfl rfl rfl hb282 (k_call hS ci17 rfl rfl (deque_Valid_c _ _ hL.dlt (hL.get 4 rfl) (DequeD.mk u212.1.Keys) _ (hL.get 0 rfl) _ hu283) fun _ w hR a hk hA => ⟨stN (hk), ?_⟩)
                have he := Eq.symm hR
                subst he
                have hS := hA [] (fun r hr => by cases hr) List.Pairwise.nil
                refine dy 23 (v := .bool u283) rfl (by kernel_rfl) (by kernel_rfl) (by kernel_rfl) rfl hQ hS (y_pickt hS rfl hb282 rfl) rfl rfl rfl fun a hS => ?_
                refine dy 24 (v := .bool u283) rfl (by kernel_rfl) (by kernel_rfl) (by kernel_rfl) rfl hQ hS (y_assign hS rfl) rfl rfl rfl fun a hS => ?_
                refine wpE_done (by kernel_rfl) ?_ _
                try simp only [Exit.then, Exit.inBlock, ↓reduceIte, Nat.reduceEqDiff]
                exact ⟨u283, (hS.meet [] (by decide) ⟨rfl, trivial⟩ trivial ⟨⟨3, rfl⟩, trivial⟩), hM⟩
              · replace hM := cf hb282 hM
                refine dyn 21 rfl (by kernel_rfl) (by kernel_rfl) (by kernel_rfl) hQ hS rfl rfl rfl hb282 rfl rfl fun a hS => ?_
                refine dyn 22 rfl (by kernel_rfl) (by kernel_rfl) (by kernel_rfl) hQ hS rfl rfl rfl hb282 rfl rfl fun a hS => ?_
                refine dy 23 (v := .bool false) rfl (by kernel_rfl) (by kernel_rfl) (by kernel_rfl) rfl hQ hS (y_pickf hS rfl hb282 rfl) rfl rfl rfl fun a hS => ?_
                refine dy 24 (v := .bool false) rfl (by kernel_rfl) (by kernel_rfl) (by kernel_rfl) rfl hQ hS (y_assign hS rfl) rfl rfl rfl fun a hS => ?_
                refine wpE_done (by kernel_rfl) ?_ _
                try simp only [Exit.then, Exit.inBlock, ↓reduceIte, Nat.reduceEqDiff]
                exact ⟨false, (hS.meet [] (by decide) ⟨rfl, trivial⟩ trivial ⟨⟨3, rfl⟩, trivial⟩), hM⟩
            · replace hM := cf hb281 hM
              refine dyn 15 rfl (by kernel_rfl) (by kernel_rfl) (by kernel_rfl) hQ hS rfl rfl rfl hb281 rfl rfl fun a hS => ?_
              refine dyn 16 rfl (by kernel_rfl) (by kernel_rfl) (by kernel_rfl) hQ hS rfl rfl rfl hb281 rfl rfl fun a hS => ?_
              refine dyn 17 rfl (by kernel_rfl) (by kernel_rfl) (by kernel_rfl) hQ hS rfl rfl rfl hb281 rfl rfl fun a hS => ?_
              refine dyn 18 rfl (by kernel_rfl) (by kernel_rfl) (by kernel_rfl) hQ hS rfl rfl rfl hb281 rfl rfl fun a hS => ?_
              refine dy 19 (v := .bool false) rfl (by kernel_rfl) (by kernel_rfl) (by kernel_rfl) rfl hQ hS (y_pickf hS rfl hb281 rfl) rfl rfl rfl fun a hS => ?_
              refine dy 20 (v := .bool false) rfl (by kernel_rfl) (by kernel_rfl) (by kernel_rfl) rfl hQ hS (y_move hS rfl) rfl rfl rfl fun a hS => ?_
              refine dyn 21 rfl (by kernel_rfl) (by kernel_rfl) (by kernel_rfl) hQ hS rfl rfl rfl rfl rfl rfl fun a hS => ?_
              refine dyn 22 rfl (by kernel_rfl) (by kernel_rfl) (by kernel_rfl) hQ hS rfl rfl rfl rfl rfl rfl fun a hS => ?_
              refine dy 23 (v := .bool false) rfl (by kernel_rfl) (by kernel_rfl) (by kernel_rfl) rfl hQ hS (y_pickf hS rfl rfl rfl) rfl rfl rfl fun a hS => ?_
              refine dy 24 (v := .bool false) rfl (by kernel_rfl) (by kernel_rfl) (by kernel_rfl) rfl hQ hS (y_assign hS rfl) rfl rfl rfl fun a hS => ?_
              refine wpE_done (by kernel_rfl) ?_ _
              try simp only [Exit.then, Exit.inBlock, ↓reduceIte, Nat.reduceEqDiff]
              exact ⟨false, (hS.meet [] (by decide) ⟨rfl, trivial⟩ trivial ⟨⟨3, rfl⟩, trivial⟩), hM⟩
          · replace hM := cf hb278 hM
            refine dyn 10 rfl (by kernel_rfl) (by kernel_rfl) (by kernel_rfl) hQ hS rfl rfl rfl hb278 rfl rfl fun a hS => ?_
            refine dyn 11 rfl (by kernel_rfl) (by kernel_rfl) (by kernel_rfl) hQ hS rfl rfl rfl hb278 rfl rfl fun a hS => ?_
            refine dyn 12 rfl (by kernel_rfl) (by kernel_rfl) (by kernel_rfl) hQ hS rfl rfl rfl hb278 rfl rfl fun a hS => ?_
            refine dy 13 (v := .bool false) rfl (by kernel_rfl) (by kernel_rfl) (by kernel_rfl) rfl hQ hS (y_pickf hS rfl hb278 rfl) rfl rfl rfl fun a hS => ?_
            refine dy 14 (v := .bool false) rfl (by kernel_rfl) (by kernel_rfl) (by kernel_rfl) rfl hQ hS (y_move hS rfl) rfl rfl rfl fun a hS => ?_
            refine dyn 15 rfl (by kernel_rfl) (by kernel_rfl) (by kernel_rfl) hQ hS rfl rfl rfl rfl rfl rfl fun a hS => ?_
            refine dyn 16 rfl (by kernel_rfl) (by kernel_rfl) (by kernel_rfl) hQ hS rfl rfl rfl rfl rfl rfl fun a hS => ?_
            refine dyn 17 rfl (by kernel_rfl) (by kernel_rfl) (by kernel_rfl) hQ hS rfl rfl rfl rfl rfl rfl fun a hS => ?_
            refine dyn 18 rfl (by kernel_rfl) (by kernel_rfl) (by kernel_rfl) hQ hS rfl rfl rfl rfl rfl rfl fun a hS => ?_
            refine dy 19 (v := .bool false) rfl (by kernel_rfl) (by kernel_rfl) (by kernel_rfl) rfl hQ hS (y_pickf hS rfl rfl rfl) rfl rfl rfl fun a hS => ?_
            refine dy 20 (v := .bool false) rfl (by kernel_rfl) (by kernel_rfl) (by kernel_rfl) rfl hQ hS (y_move hS rfl) rfl rfl rfl fun a hS => ?_
            refine dyn 21 rfl (by kernel_rfl) (by kernel_rfl) (by kernel_rfl) hQ hS rfl rfl rfl rfl rfl rfl fun a hS => ?_
            refine dyn 22 rfl (by kernel_rfl) (by kernel_rfl) (by kernel_rfl) hQ hS rfl rfl rfl rfl rfl rfl fun a hS => ?_
            refine dy 23 (v := .bool false) rfl (by kernel_rfl) (by kernel_rfl) (by kernel_rfl) rfl hQ hS (y_pickf hS rfl rfl rfl) rfl rfl rfl fun a hS => ?_
            refine dy 24 (v := .bool false) rfl (by kernel_rfl) (by kernel_rfl) (by kernel_rfl) rfl hQ hS (y_assign hS rfl) rfl rfl rfl fun a hS => ?_
            refine wpE_done (by kernel_rfl) ?_ _
            try simp only [Exit.then, Exit.inBlock, ↓reduceIte, Nat.reduceEqDiff]
            exact ⟨false, (hS.meet [] (by decide) ⟨rfl, trivial⟩ trivial ⟨⟨3, rfl⟩, trivial⟩), hM⟩
        · replace hM := cf hb275 hM
          refine dyn 5 rfl (by kernel_rfl) (by kernel_rfl) (by kernel_rfl) hQ hS rfl rfl rfl hb275 rfl rfl fun a hS => ?_
          refine dyn 6 rfl (by kernel_rfl) (by kernel_rfl) (by kernel_rfl) hQ hS rfl rfl rfl hb275 rfl rfl fun a hS => ?_
          refine dyn 7 rfl (by kernel_rfl) (by kernel_rfl) (by kernel_rfl) hQ hS rfl rfl rfl hb275 rfl rfl fun a hS => ?_
          refine dy 8 (v := .bool false) rfl (by kernel_rfl) (by kernel_rfl) (by kernel_rfl) rfl hQ hS (y_pickf hS rfl hb275 rfl) rfl rfl rfl fun a hS => ?_
          refine dy 9 (v := .bool false) rfl (by kernel_rfl) (by kernel_rfl) (by kernel_rfl) rfl hQ hS (y_move hS rfl) rfl rfl rfl fun a hS => ?_
          refine dyn 10 rfl (by kernel_rfl) (by kernel_rfl) (by kernel_rfl) hQ hS rfl rfl rfl rfl rfl rfl fun a hS => ?_
          refine dyn 11 rfl (by kernel_rfl) (by kernel_rfl) (by kernel_rfl) hQ hS rfl rfl rfl rfl rfl rfl fun a hS => ?_
          refine dyn 12 rfl (by kernel_rfl) (by kernel_rfl) (by kernel_rfl) hQ hS rfl rfl rfl rfl rfl rfl fun a hS => ?_
          refine dy 13 (v := .bool false) rfl (by kernel_rfl) (by kernel_rfl) (by kernel_rfl) rfl hQ hS (y_pickf hS rfl rfl rfl) rfl rfl rfl fun a hS => ?_
          refine dy 14 (v := .bool false) rfl (by kernel_rfl) (by kernel_rfl) (by kernel_rfl) rfl hQ hS (y_move hS rfl) rfl rfl rfl fun a hS => ?_
          refine dyn 15 rfl (by kernel_rfl) (by kernel_rfl) (by kernel_rfl) hQ hS rfl rfl rfl rfl rfl rfl fun a hS => ?_
          refine dyn 16 rfl (by kernel_rfl) (by kernel_rfl) (by kernel_rfl) hQ hS rfl rfl rfl rfl rfl rfl fun a hS => ?_
          refine dyn 17 rfl (by kernel_rfl) (by kernel_rfl) (by kernel_rfl) hQ hS rfl rfl rfl rfl rfl rfl fun a hS => ?_
          refine dyn 18 rfl (by kernel_rfl) (by kernel_rfl) (by kernel_rfl) hQ hS rfl rfl rfl rfl rfl rfl fun a hS => ?_
          refine dy 19 (v := .bool false) rfl (by kernel_rfl) (by kernel_rfl) (by kernel_rfl) rfl hQ hS (y_pickf hS rfl rfl rfl) rfl rfl rfl fun a hS => ?_
          refine dy 20 (v := .bool false) rfl (by kernel_rfl) (by kernel_rfl) (by kernel_rfl) rfl hQ hS (y_move hS rfl) rfl rfl rfl fun a hS => ?_
          refine dyn 21 rfl (by kernel_rfl) (by kernel_rfl) (by kernel_rfl) hQ hS rfl rfl rfl rfl rfl rfl fun a hS => ?_
          refine dyn 22 rfl (by kernel_rfl) (by kernel_rfl) (by kernel_rfl) hQ hS rfl rfl rfl rfl rfl rfl fun a hS => ?_
          refine dy 23 (v := .bool false) rfl (by kernel_rfl) (by kernel_rfl) (by kernel_rfl) rfl hQ hS (y_pickf hS rfl rfl rfl) rfl rfl rfl fun a hS => ?_
          refine dy 24 (v := .bool false) rfl (by kernel_rfl) (by kernel_rfl) (by kernel_rfl) rfl hQ hS (y_assign hS rfl) rfl rfl rfl fun a hS => ?_
          refine wpE_done (by kernel_rfl) ?_ _
          try simp only [Exit.then, Exit.inBlock, ↓reduceIte, Nat.reduceEqDiff]
          exact ⟨false, (hS.meet [] (by decide) ⟨rfl, trivial⟩ trivial ⟨⟨3, rfl⟩, trivial⟩), hM⟩
      · replace hM := cf hb274 hM
        refine dyn 2 rfl (by kernel_rfl) (by kernel_rfl) (by kernel_rfl) hQ hS rfl rfl rfl hb274 rfl rfl fun a hS => ?_
        refine dy 3 (v := .bool false) rfl (by kernel_rfl) (by kernel_rfl) (by kernel_rfl) rfl hQ hS (y_pickf hS rfl hb274 rfl) rfl rfl rfl fun a hS => ?_
        refine dy 4 (v := .bool false) rfl (by kernel_rfl) (by kernel_rfl) (by kernel_rfl) rfl hQ hS (y_move hS rfl) rfl rfl rfl fun a hS => ?_
        refine dyn 5 rfl (by kernel_rfl) (by kernel_rfl) (by kernel_rfl) hQ hS rfl rfl rfl rfl rfl rfl fun a hS => ?_
        refine dyn 6 rfl (by kernel_rfl) (by kernel_rfl) (by kernel_rfl) hQ hS rfl rfl rfl rfl rfl rfl fun a hS => ?_
        refine dyn 7 rfl (by kernel_rfl) (by kernel_rfl) (by kernel_rfl) hQ hS rfl rfl rfl rfl rfl rfl fun a hS => ?_
        refine dy 8 (v := .bool false) rfl (by kernel_rfl) (by kernel_rfl) (by kernel_rfl) rfl hQ hS (y_pickf hS rfl rfl rfl) rfl rfl rfl fun a hS => ?_
        refine dy 9 (v := .bool false) rfl (by kernel_rfl) (by kernel_rfl) (by kernel_rfl) rfl hQ hS (y_move hS rfl) rfl rfl rfl fun a hS => ?_
        refine dyn 10 rfl (by kernel_rfl) (by kernel_rfl) (by kernel_rfl) hQ hS rfl rfl rfl rfl rfl rfl fun a hS => ?_
        refine dyn 11 rfl (by kernel_rfl) (by kernel_rfl) (by kernel_rfl) hQ hS rfl rfl rfl rfl rfl rfl fun a hS => ?_
        refine dyn 12 rfl (by kernel_rfl) (by kernel_rfl) (by kernel_rfl) hQ hS rfl rfl rfl rfl rfl rfl fun a hS => ?_
        refine dy 13 (v := .bool false) rfl (by kernel_rfl) (by kernel_rfl) (by kernel_rfl) rfl hQ hS (y_pickf hS rfl rfl rfl) rfl rfl rfl fun a hS => ?_
        refine dy 14 (v := .bool false) rfl (by kernel_rfl) (by kernel_rfl) (by kernel_rfl) rfl hQ hS (y_move hS rfl) rfl rfl rfl fun a hS => ?_
        refine dyn 15 rfl (by kernel_rfl) (by kernel_rfl) (by kernel_rfl) hQ hS rfl rfl rfl rfl rfl rfl fun a hS => ?_
        refine dyn 16 rfl (by kernel_rfl) (by kernel_rfl) (by kernel_rfl) hQ hS rfl rfl rfl rfl rfl rfl fun a hS => ?_
        refine dyn 17 rfl (by kernel_rfl) (by kernel_rfl) (by kernel_rfl) hQ hS rfl rfl rfl rfl rfl rfl fun a hS => ?_
        refine dyn 18 rfl (by kernel_rfl) (by kernel_rfl) (by kernel_rfl) hQ hS rfl rfl rfl rfl rfl rfl fun a hS => ?_
        refine dy 19 (v := .bool false) rfl (by kernel_rfl) (by kernel_rfl) (by kernel_rfl) rfl hQ hS (y_pickf hS rfl rfl rfl) rfl rfl rfl fun a hS => ?_
        refine dy 20 (v := .bool false) rfl (by kernel_rfl) (by kernel_rfl) (by kernel_rfl) rfl hQ hS (y_move hS rfl) rfl rfl rfl fun a hS => ?_
        refine dyn 21 rfl (by kernel_rfl) (by kernel_rfl) (by kernel_rfl) hQ hS rfl rfl rfl rfl rfl rfl fun a hS => ?_
        refine dyn 22 rfl (by kernel_rfl) (by kernel_rfl) (by kernel_rfl) hQ hS rfl rfl rfl rfl rfl rfl fun a hS => ?_
        refine dy 23 (v := .bool false) rfl (by kernel_rfl) (by kernel_rfl) (by kernel_rfl) rfl hQ hS (y_pickf hS rfl rfl rfl) rfl rfl rfl fun a hS => ?_
        refine dy 24 (v := .bool false) rfl (by kernel_rfl) (by kernel_rfl) (by kernel_rfl) rfl hQ hS (y_assign hS rfl) rfl rfl rfl fun a hS => ?_
        refine wpE_done (by kernel_rfl) ?_ _
        try simp only [Exit.then, Exit.inBlock, ↓reduceIte, Nat.reduceEqDiff]
        exact ⟨false, (hS.meet [] (by decide) ⟨rfl, trivial⟩ trivial ⟨⟨3, rfl⟩, trivial⟩), hM⟩
    · rintro a w ⟨g262, hS, hM⟩
      unfold law32_awake_j1 at hM
      refine wp_ret ?_
      injection hM with hM
      subst hM
      try simp only [Exit.then, Exit.inBlock, ↓reduceIte, Nat.reduceEqDiff]
      refine ret_ok hS Tryd.results12 (res_tmp hS rfl res_nil) ?_
      exact rfl

noncomputable def law32_DequeOnce_j1 : Option Bool := (law32_awake).bind fun u7150 => some (u7150)
noncomputable def law32_DequeOnce_j2 (g8381 : Int) (have10089 : (List KeyD)) (next10093 : Int) (d10094 : (List KeyD)) : Option (Fl ((List KeyD) × Int × Int × (List KeyD)) (Fl (Unit) Bool)) := some (.go (have10089, next10093, IntKind.i64.wrap (g8381 + 1), d10094))
noncomputable def law32_DequeOnce_j3 (g8381 : Int) (have10373 : (List KeyD)) (next10377 : Int) (d10378 : (List KeyD)) : Option (Fl ((List KeyD) × Int × Int × (List KeyD)) (Fl (Unit) Bool)) := cond (((d10378.length : Int) : Int) != (have10373.length : Int)) (some (.out (.out false))) ((deque_Valid (DequeD.mk d10378)).bind fun u10386 => cond (!(u10386)) (some (.out (.out false))) (law32_DequeOnce_j2 g8381 have10373 next10377 d10378))
noncomputable def law32_DequeOnce_j4 (next8380 : Int) (g8381 : Int) (u10390 : (DequeD × KeyD × Bool)) (have10450 : (List KeyD)) : Option (Fl ((List KeyD) × Int × Int × (List KeyD)) (Fl (Unit) Bool)) := law32_DequeOnce_j3 g8381 have10450 next8380 u10390.1.Keys
noncomputable def law32_DequeOnce_j5 (have8376 : (List KeyD)) (next8380 : Int) (g8381 : Int) (u10390 : (DequeD × KeyD × Bool)) (g10443 : Bool) : Option (Fl ((List KeyD) × Int × Int × (List KeyD)) (Fl (Unit) Bool)) := cond g10443 (some (.out (.out false))) (cond u10390.2.2 ((subI have8376 0 (IntKind.i64.wrap ((have8376.length : Int) - 1))).bind fun l10455 => law32_DequeOnce_j4 next8380 g8381 u10390 l10455) (law32_DequeOnce_j4 next8380 g8381 u10390 have8376))
noncomputable def law32_DequeOnce_j6 (next8380 : Int) (g8381 : Int) (u10482 : (DequeD × KeyD × Bool)) (have10542 : (List KeyD)) : Option (Fl ((List KeyD) × Int × Int × (List KeyD)) (Fl (Unit) Bool)) := law32_DequeOnce_j3 g8381 have10542 next8380 u10482.1.Keys
noncomputable def law32_DequeOnce_j7 (have8376 : (List KeyD)) (next8380 : Int) (g8381 : Int) (u10482 : (DequeD × KeyD × Bool)) (g10535 : Bool) : Option (Fl ((List KeyD) × Int × Int × (List KeyD)) (Fl (Unit) Bool)) := cond g10535 (some (.out (.out false))) (cond u10482.2.2 ((subI have8376 1 have8376.length).bind fun l10547 => law32_DequeOnce_j6 next8380 g8381 u10482 l10547) (law32_DequeOnce_j6 next8380 g8381 u10482 have8376))
noncomputable def law32_DequeOnce_j8 (g8381 : Int) (x10612 : (List KeyD)) (have10626 : (List KeyD)) (next10630 : Int) : Option (Fl ((List KeyD) × Int × Int × (List KeyD)) (Fl (Unit) Bool)) := law32_DequeOnce_j3 g8381 have10626 next10630 x10612
noncomputable def law32_DequeOnce_j9 (have8376 : (List KeyD)) (next8380 : Int) (g8381 : Int) (e10611 : Int) (x10612 : (List KeyD)) : Option (Fl ((List KeyD) × Int × Int × (List KeyD)) (Fl (Unit) Bool)) := cond (((e10611 : Int) == 0) != (decide (((have8376.length : Int) : Int) < 64))) (some (.out (.out false))) (cond ((e10611 : Int) == 0) ((ref23_Cell (Int.tmod next8380 100)).bind fun u10632 => gd (roomB (have8376.length + ([u10632]).length)) <| law32_DequeOnce_j8 g8381 x10612 (have8376 ++ ([u10632])) (IntKind.i64.wrap (next8380 + 1))) (law32_DequeOnce_j8 g8381 x10612 have8376 next8380))
noncomputable def law32_DequeOnce_l10 (steps_ : (List Int)) (have8376 : (List KeyD)) (next8380 : Int) (g8381 : Int) (d8382 : (List KeyD)) : Option (Fl ((List KeyD) × Int × Int × (List KeyD)) (Fl (Unit) Bool)) := cond (decide ((g8381 : Int) < (steps_.length : Int))) ((getI steps_ g8381).bind fun e10098 => cond ((Int.tmod e10098 4 : Int) == 0) ((deque_Pop (DequeD.mk d8382)).bind fun u10390 => cond (u10390.2.2 != (decide ((0 : Int) < (have8376.length : Int)))) (law32_DequeOnce_j5 have8376 next8380 g8381 u10390 true) (cond u10390.2.2 ((getI have8376 (IntKind.i64.wrap ((have8376.length : Int) - 1))).bind fun e10472 => law32_DequeOnce_j5 have8376 next8380 g8381 u10390 (!((u10390.2.1.Kind : Int) == e10472.Kind && u10390.2.1.Text.toList == e10472.Text.toList))) (law32_DequeOnce_j5 have8376 next8380 g8381 u10390 false))) (cond ((Int.tmod e10098 4 : Int) == 1) ((deque_Steal (DequeD.mk d8382)).bind fun u10482 => cond (u10482.2.2 != (decide ((0 : Int) < (have8376.length : Int)))) (law32_DequeOnce_j7 have8376 next8380 g8381 u10482 true) (cond u10482.2.2 ((getI have8376 0).bind fun e10564 => law32_DequeOnce_j7 have8376 next8380 g8381 u10482 (!((u10482.2.1.Kind : Int) == e10564.Kind && u10482.2.1.Text.toList == e10564.Text.toList))) (law32_DequeOnce_j7 have8376 next8380 g8381 u10482 false))) ((ref23_Cell (Int.tmod next8380 100)).bind fun u10649 => (deque_Push (DequeD.mk d8382) u10649).bind fun u10651 => law32_DequeOnce_j9 have8376 next8380 g8381 u10651.2 u10651.1.Keys))) (some (.out (.go ())))
noncomputable def law32_DequeOnce (steps_ : (List Int)) : Option Bool := cond (decide ((100 : Int) < (steps_.length : Int))) ((law32_awake).bind fun u4771 => some (u4771)) ((loop (fun s : (List KeyD) × Int × Int × (List KeyD) => law32_DequeOnce_l10 steps_ s.1 s.2.1 s.2.2.1 s.2.2.2) (([] : List KeyD), 0, 0, ([] : List KeyD))).bind fun r => Fl.el r (fun s => law32_DequeOnce_j1) (fun y => some (y)))
set_option maxRecDepth 100000 in
set_option maxHeartbeats 4000000 in
theorem law32_DequeOnce_c (T : Nat → Prop) (W0 : World) (hT : ∀ k, T k → k < W0.heap.size) (hLv : LvP T W0) (steps_ : (List Int)) (v1 : Value) (hv1 : SlR (Rep.int .u8) T W0 v1 steps_) (y : Bool) (hM : law32_DequeOnce steps_ = some y) : Rets Tryd.prog No 3 [v1] W0 (fun v w' => v = .bool y) := by
  refine enter (c := _) Tryd.func3 rfl T 126 Tryd.ntmps3 hT rfl fun a hS => ?_
  replace hS := hS.fact LvF (LvP.dn hLv)
  replace hS := hS.fact (SlF (Rep.int .u8) v1 steps_) (SlR.dn hv1)
  unfold law32_DequeOnce at hM
  refine wp_seq_k fun K371 hK371 => ?_
  refine r_list ?_
  refine wl rfl (ky (v := .bool false) hS (y_assign hS rfl) rfl rfl fun a hS => ?_)
  refine wpList_nil ?_
  try simp only [Exit.then, Exit.inBlock, ↓reduceIte, Nat.reduceEqDiff]
  refine hK371 _ _ ?_
  refine wp_seq_k fun K372 hK372 => ?_
  refine wp_seq_k fun K373 hK373 => ?_
  refine r_list ?_
  refine wl rfl (ky (v := v1) hS (y_move hS rfl) rfl rfl fun a hS => ?_)
  refine wl rfl (ky (v := .int .i64 (steps_.length : Int)) hS (y_len (R := (Rep.int .u8)) (xs := steps_) hS sl22 rfl 0 rfl) rfl rfl fun a hS => ?_)
  refine wl rfl (ky (v := .bool (decide ((100 : Int) < (steps_.length : Int)))) hS (y_int hS rfl rfl rfl) rfl rfl fun a hS => ?_)
  refine wpList_nil ?_
  try simp only [Exit.then, Exit.inBlock, ↓reduceIte, Nat.reduceEqDiff]
  refine hK373 _ _ ?_
  rcases bool2 (decide ((100 : Int) < (steps_.length : Int))) with hb4770 | hb4770
  · replace hM := ct hb4770 hM
    refine c_t hS rfl hb4770 ?_
    refine wp_seq_k fun K374 hK374 => ?_
    refine r_list ?_
    obtain ⟨u4771, hu4771, hM⟩ := bd hM
    refine wl rfl (k_call hS ci12 rfl rfl (law32_awake_c _ _ hS.dlt (hS.get 1 rfl) _ hu4771) fun _ w hR a hk hA => ?_)
    have he := Eq.symm hR
    subst he
    have hS := hA [] (fun r hr => by cases hr) List.Pairwise.nil
    refine wl rfl (ky (v := .bool u4771) hS (y_assign hS rfl) rfl rfl fun a hS => ?_)
    refine wpList_nil ?_
    try simp only [Exit.then, Exit.inBlock, ↓reduceIte, Nat.reduceEqDiff]
    refine hK374 _ _ ?_
    refine wp_ret ?_
    injection hM with hM
    subst hM
    try simp only [Exit.then, Exit.inBlock, ↓reduceIte, Nat.reduceEqDiff]
    refine ret_ok hS Tryd.results3 (res_tmp hS rfl res_nil) ?_
    exact rfl
  · replace hM := cf hb4770 hM
    refine c_f hS rfl hb4770 ?_
    refine wp_skip ?_
    try simp only [Exit.then, Exit.inBlock, ↓reduceIte, Nat.reduceEqDiff]
    refine hK372 _ _ ?_
    refine wp_seq_k fun K375 hK375 => ?_
    refine r_list ?_
    refine wl rfl (k_alloc hS ze26 rfl fun b4773 hnb4775 a w hk hS => ?_)
    refine wpList_nil ?_
    try simp only [Exit.then, Exit.inBlock, ↓reduceIte, Nat.reduceEqDiff]
    refine hK375 _ _ ?_
    refine wp_seq_k fun K376 hK376 => ?_
    refine r_list ?_
    refine wl rfl (ky (v := .slice none 0 0) hS (y_assign hS rfl) rfl rfl fun a hS => ?_)
    refine wpList_nil ?_
    try simp only [Exit.then, Exit.inBlock, ↓reduceIte, Nat.reduceEqDiff]
    refine hK376 _ _ ?_
    refine wp_seq_k fun K377 hK377 => ?_
    refine r_list ?_
    refine wl rfl (ky (v := .int .i64 0) hS (y_assign hS rfl) rfl rfl fun a hS => ?_)
    refine wpList_nil ?_
    try simp only [Exit.then, Exit.inBlock, ↓reduceIte, Nat.reduceEqDiff]
    refine hK377 _ _ ?_
    refine seq_j (J := fun a w => St W0 No T 126 [] [] [LvF] a w ∧ law32_DequeOnce_j1 = some y) ?_ ?_
    · skip
      refine wp_seq_k fun K560 hK560 => ?_
      refine r_list ?_
      refine wl rfl (ky (v := v1) hS (y_move hS rfl) rfl rfl fun a hS => ?_)
      refine wl rfl (ky (v := .int .i64 (steps_.length : Int)) hS (y_len (R := (Rep.int .u8)) (xs := steps_) hS sl22 rfl 0 rfl) rfl rfl fun a hS => ?_)
      refine wl rfl (ky (v := .int .i64 0) hS (y_move hS rfl) rfl rfl fun a hS => ?_)
      refine wpList_nil ?_
      try simp only [Exit.then, Exit.inBlock, ↓reduceIte, Nat.reduceEqDiff]
      refine hK560 _ _ ?_
      refine wp_block ?_
      replace hS := hS.nilRow R_KeyD 28 (by decide)
      replace hS := hS.nilRow R_KeyD 28 (by decide)
      obtain ⟨r1, hl1, hMo1⟩ := bd hM
      refine wp_lp (fun s : (List KeyD) × Int × Int × (List KeyD) => law32_DequeOnce_l10 steps_ s.1 s.2.1 s.2.2.1 s.2.2.2) (fun s a w => ∃ (have8376 : (List KeyD)) (next8380 : Int) (g8381 : Int) (d8382 : (List KeyD)) (v8377 : Value) (cl8378 : (List Value)) (v8383 : Value) (cl8384 : (List Value)), (have8376, next8380, g8381, d8382) = s ∧ St W0 No T 126 [(3, .pointer (some ⟨b4773, 0, none⟩)), (4, v8377), (5, .int .i64 next8380), (20, v1), (21, .int .i64 (steps_.length : Int)), (22, .int .i64 g8381)] [.own v8377 28 R_KeyD.size cl8378, .own v8383 28 R_KeyD.size cl8384, .box b4773 [v8383] 26] [RowsF R_KeyD cl8378 have8376, SlF (Rep.int .u8) v1 steps_, RowsF R_KeyD cl8384 d8382, LvF] a w) hl1 ⟨([] : List KeyD), 0, 0, ([] : List KeyD), (.slice none 0 0), ([]), (.slice none 0 0), ([]), rfl, (hS.meet [1, 0, 2] (by decide) ⟨rfl, rfl, rfl, rfl, rfl, rfl, trivial⟩ ⟨rfl, rfl, rfl, trivial⟩ ⟨⟨0, rfl⟩, ⟨2, rfl⟩, ⟨0, rfl⟩, ⟨3, rfl⟩, trivial⟩)⟩ ?_
      rintro s a w f1 ⟨have8376, next8380, g8381, d8382, v8377, cl8378, v8383, cl8384, rfl, hS⟩ hM hf1
      have hM : law32_DequeOnce_l10 steps_ have8376 next8380 g8381 d8382 = some f1 := hM
      unfold law32_DequeOnce_l10 at hM
      refine wp_seq_k fun K741 hK741 => ?_
      refine r_list ?_
      refine wl rfl (ky (v := .bool (decide ((g8381 : Int) < (steps_.length : Int)))) hS (y_int hS rfl rfl rfl) rfl rfl fun a hS => ?_)
      refine wpList_nil ?_
      try simp only [Exit.then, Exit.inBlock, ↓reduceIte, Nat.reduceEqDiff]
      refine hK741 _ _ ?_
      refine wp_seq_k fun K742 hK742 => ?_
      rcases bool2 (decide ((g8381 : Int) < (steps_.length : Int))) with hb9528 | hb9528
      · replace hM := ct hb9528 hM
        refine c_t hS rfl hb9528 ?_
        refine wp_skip ?_
        try simp only [Exit.then, Exit.inBlock, ↓reduceIte, Nat.reduceEqDiff]
        refine hK742 _ _ ?_
        refine seq_j (J := fun a w => ∃ (have10089 : (List KeyD)) (next10093 : Int) (d10094 : (List KeyD)) (v10090 : Value) (cl10091 : (List Value)) (v10095 : Value) (cl10096 : (List Value)), St W0 No T 126 [(3, .pointer (some ⟨b4773, 0, none⟩)), (4, v10090), (5, .int .i64 next10093), (20, v1), (21, .int .i64 (steps_.length : Int)), (22, .int .i64 g8381)] [.own v10090 28 R_KeyD.size cl10091, .own v10095 28 R_KeyD.size cl10096, .box b4773 [v10095] 26] [RowsF R_KeyD cl10091 have10089, SlF (Rep.int .u8) v1 steps_, RowsF R_KeyD cl10096 d10094, LvF] a w ∧ law32_DequeOnce_j2 g8381 have10089 next10093 d10094 = some f1) ?_ ?_
        · skip
          refine wp_block ?_
          refine wp_seq_k fun K787 hK787 => ?_
          refine r_list ?_
          obtain ⟨e10098, he10098, hM⟩ := bd hM
          refine wl rfl (k_index (R := (Rep.int .u8)) hS sl22 ty5 rfl rfl 1 rfl he10098 rfl fun b10099 o10100 cs10102 hr10101 a hS => ?_)
          obtain rfl := hr10101
          refine wl rfl (ky (v := .int .u8 e10098) hS (y_loadc (k := 0) hS ty5 0 rfl rfl (fun _ h => h.elim) (us := [.int .u8 e10098]) rfl rfl (fun _ => rfl)) rfl rfl fun a hS => ?_)
          refine wl rfl (ky (v := .int .u8 e10098) hS (y_assign hS rfl) rfl rfl fun a hS => ?_)
          refine wpList_nil ?_
          try simp only [Exit.then, Exit.inBlock, ↓reduceIte, Nat.reduceEqDiff]
          refine hK787 _ _ ?_
          refine seq_j (J := fun a w => ∃ (have10373 : (List KeyD)) (next10377 : Int) (d10378 : (List KeyD)) (v10374 : Value) (cl10375 : (List Value)) (v10379 : Value) (cl10380 : (List Value)), St W0 No T 126 [(3, .pointer (some ⟨b4773, 0, none⟩)), (4, v10374), (5, .int .i64 next10377), (20, v1), (21, .int .i64 (steps_.length : Int)), (22, .int .i64 g8381)] [.own v10374 28 R_KeyD.size cl10375, .own v10379 28 R_KeyD.size cl10380, .box b4773 [v10379] 26] [RowsF R_KeyD cl10375 have10373, SlF (Rep.int .u8) v1 steps_, RowsF R_KeyD cl10380 d10378, LvF] a w ∧ law32_DequeOnce_j3 g8381 have10373 next10377 d10378 = some f1) ?_ ?_
          · skip
            refine wp_seq_k fun K811 hK811 => ?_
            refine r_list ?_
            refine wl rfl (ky (v := .int .u8 e10098) hS (y_move hS rfl) rfl rfl fun a hS => ?_)
            refine wl rfl (ky (v := .int .u8 (Int.tmod e10098 4)) hS (y_rem hS rfl rfl (by decide)) rfl rfl fun a hS => ?_)
            refine wpList_nil ?_
            try simp only [Exit.then, Exit.inBlock, ↓reduceIte, Nat.reduceEqDiff]
            refine hK811 _ _ ?_
            refine wp_block ?_
            refine wp_seq_k fun K812 hK812 => ?_
            refine r_list ?_
            refine wl rfl (ky (v := .bool ((Int.tmod e10098 4 : Int) == 0)) hS (y_int hS rfl rfl rfl) rfl rfl fun a hS => ?_)
            refine wl rfl (ky (v := .bool ((Int.tmod e10098 4 : Int) == 0)) hS (y_assign hS rfl) rfl rfl fun a hS => ?_)
            refine wpList_nil ?_
            try simp only [Exit.then, Exit.inBlock, ↓reduceIte, Nat.reduceEqDiff]
            refine hK812 _ _ ?_
            rcases bool2 ((Int.tmod e10098 4 : Int) == 0) with hb10389 | hb10389
            · replace hM := ct hb10389 hM
              refine c_t hS rfl hb10389 ?_
              refine wp_seq_k fun K813 hK813 => ?_
              refine r_list ?_
              refine wl rfl (ky (v := .agg #[v8383]) hS (y_load hS rfl ty26 2 rfl id (us := [v8383]) rfl rfl (fun h => by cases h)) rfl rfl fun a hS => ?_)
              have hL := hS
              replace hL := hL.freeze (R := R_KeyD) 1 rfl 3 rfl
              obtain ⟨u10390, hu10390, hM⟩ := bd hM
              refine wl rfl (k_call hS ci13 rfl rfl (deque_Pop_c _ _ hL.dlt (DequeD.mk d8382) _ (hL.get 0 rfl) _ hu10390) fun _ w hR a hk hA => ?_)
              obtain ⟨vz10391_2, clz10391_3, he, ⟨hOvz10391_2, hFvz10391_2, hRvz10391_2⟩⟩ := hR
              replace he := he.symm
              subst he
              have hS := hA [.own vz10391_2 28 R_KeyD.size clz10391_3] (adds1 ⟨hOvz10391_2, by decide⟩ hFvz10391_2) (pw1 _)
              replace hS := hS.fact (RowsF R_KeyD clz10391_3 u10390.1.Keys) hRvz10391_2
              refine wl rfl (ky (v := .tuple #[.agg #[vz10391_2], .agg #[.int .i64 u10390.2.1.Kind, .string u10390.2.1.Text], .bool u10390.2.2]) hS (y_move hS rfl) rfl rfl fun a hS => ?_)
              refine wl rfl (ky (v := .agg #[vz10391_2]) hS (y_ex hS rfl rfl) rfl rfl fun a hS => ?_)
              refine wl rfl (ky (v := .agg #[.int .i64 u10390.2.1.Kind, .string u10390.2.1.Text]) hS (y_ex hS rfl rfl) rfl rfl fun a hS => ?_)
              refine wl rfl (ky (v := .bool u10390.2.2) hS (y_ex hS rfl rfl) rfl rfl fun a hS => ?_)
              refine wl rfl (k_alloc hS ze26 rfl fun b10393 hnb10395 a w hk hS => ?_)
              refine wl rfl (k_alloc hS ze28 rfl fun b10396 hnb10398 a w hk hS => ?_)
              refine wl rfl (k_store hS rfl rfl (us := [vz10391_2]) rfl ty26 1 rfl rfl rfl (oc (own_one (hS.own _ (List.mem_of_getElem? (i := 2) rfl)).1) on) fun w hk hS => ?_)
              refine wl rfl (k_store hS rfl rfl (us := [.int .i64 u10390.2.1.Kind, .string u10390.2.1.Text]) rfl ty28 0 rfl rfl rfl (oc rfl (oc rfl on)) fun w hk hS => ?_)
              refine wl rfl (ky (v := .bool u10390.2.2) hS (y_assign hS rfl) rfl rfl fun a hS => ?_)
              refine wpList_nil ?_
              try simp only [Exit.then, Exit.inBlock, ↓reduceIte, Nat.reduceEqDiff]
              refine hK813 _ _ ?_
              refine wp_seq_k fun K814 hK814 => ?_
              refine seq_j (J := fun a w => ∃ (g10443 : Bool), St W0 No T 126 [(3, .pointer (some ⟨b4773, 0, none⟩)), (4, v8377), (5, .int .i64 next8380), (8, .pointer (some ⟨b10393, 0, none⟩)), (10, .bool u10390.2.2), (20, v1), (21, .int .i64 (steps_.length : Int)), (22, .int .i64 g8381), (78, .bool g10443)] [.own v8377 28 R_KeyD.size cl8378, .own v8383 28 R_KeyD.size cl8384, .box b4773 [v8383] 26, .own vz10391_2 28 R_KeyD.size clz10391_3, .box b10393 [vz10391_2] 26] [RowsF R_KeyD cl8378 have8376, SlF (Rep.int .u8) v1 steps_, RowsF R_KeyD cl8384 d8382, RowsF R_KeyD clz10391_3 u10390.1.Keys, LvF] a w ∧ law32_DequeOnce_j5 have8376 next8380 g8381 u10390 g10443 = some f1) ?_ ?_
              · skip
                refine draws [] hS mixed rfl (fun c a d v w h => by cases d <;> exact h) fun w hQ hS => ?_
                refine dy 0 (v := .bool u10390.2.2) rfl (by kernel_rfl) (by kernel_rfl) (by kernel_rfl) rfl hQ hS (y_move hS rfl) rfl rfl rfl fun a hS => ?_
                refine dy 1 (v := v8377) rfl (by kernel_rfl) (by kernel_rfl) (by kernel_rfl) rfl hQ hS (y_move hS rfl) rfl rfl rfl fun a hS => ?_
                refine dy 2 (v := .int .i64 (have8376.length : Int)) rfl (by kernel_rfl) (by kernel_rfl) (by kernel_rfl) rfl hQ hS (y_leno (R := R_KeyD) (xs := have8376) hS sl24 rfl 3 rfl 2 rfl) rfl rfl rfl fun a hS => ?_
                refine dy 3 (v := .bool (decide ((0 : Int) < (have8376.length : Int)))) rfl (by kernel_rfl) (by kernel_rfl) (by kernel_rfl) rfl hQ hS (y_int hS rfl rfl rfl) rfl rfl rfl fun a hS => ?_
                refine dy 4 (v := .bool (u10390.2.2 != (decide ((0 : Int) < (have8376.length : Int))))) rfl (by kernel_rfl) (by kernel_rfl) (by kernel_rfl) rfl hQ hS (y_bool hS rfl rfl Tryd.underlying4 (.inr ⟨rfl, rfl⟩)) rfl rfl rfl fun a hS => ?_
                refine dy 5 (v := .bool (u10390.2.2 != (decide ((0 : Int) < (have8376.length : Int))))) rfl (by kernel_rfl) (by kernel_rfl) (by kernel_rfl) rfl hQ hS (y_move hS rfl) rfl rfl rfl fun a hS => ?_
                rcases bool2 (u10390.2.2 != (decide ((0 : Int) < (have8376.length : Int)))) with hb10470 | hb10470
                · replace hM := ct hb10470 hM
                  refine dyn 6 rfl (by kernel_rfl) (by kernel_rfl) (by kernel_rfl) hQ hS rfl rfl rfl hb10470 rfl rfl fun a hS => ?_
                  refine dyn 7 rfl (by kernel_rfl) (by kernel_rfl) (by kernel_rfl) hQ hS rfl rfl rfl hb10470 rfl rfl fun a hS => ?_
                  refine dynu 8 rfl (by kernel_rfl) (by kernel_rfl) (by kernel_rfl) hQ hS rfl rfl rfl rfl rfl fun a hS => ?_
                  refine dynu 9 rfl (by kernel_rfl) (by kernel_rfl) (by kernel_rfl) hQ hS rfl rfl rfl rfl rfl fun a hS => ?_
                  refine dynu 10 rfl (by kernel_rfl) (by kernel_rfl) (by kernel_rfl) hQ hS rfl rfl rfl rfl rfl fun a hS => ?_
                  refine dynu 11 rfl (by kernel_rfl) (by kernel_rfl) (by kernel_rfl) hQ hS rfl rfl rfl rfl rfl fun a hS => ?_
                  refine dynu 12 rfl (by kernel_rfl) (by kernel_rfl) (by kernel_rfl) hQ hS rfl rfl rfl rfl rfl fun a hS => ?_
                  refine dynu 13 rfl (by kernel_rfl) (by kernel_rfl) (by kernel_rfl) hQ hS rfl rfl rfl rfl rfl fun a hS => ?_
                  refine dynu 14 rfl (by kernel_rfl) (by kernel_rfl) (by kernel_rfl) hQ hS rfl rfl rfl rfl rfl fun a hS => ?_
                  refine dynu 15 rfl (by kernel_rfl) (by kernel_rfl) (by kernel_rfl) hQ hS rfl rfl rfl rfl rfl fun a hS => ?_
                  refine dyn 16 rfl (by kernel_rfl) (by kernel_rfl) (by kernel_rfl) hQ hS rfl rfl rfl hb10470 rfl rfl fun a hS => ?_
                  refine dy 17 (v := .bool true) rfl (by kernel_rfl) (by kernel_rfl) (by kernel_rfl) rfl hQ hS (y_pickt hS rfl hb10470 rfl) rfl rfl rfl fun a hS => ?_
                  refine wpE_done (by kernel_rfl) ?_ _
                  try simp only [Exit.then, Exit.inBlock, ↓reduceIte, Nat.reduceEqDiff]
                  exact ⟨true, (hS.meet [3, 4, 5, 2, 1] (by decide) ⟨rfl, rfl, rfl, rfl, rfl, rfl, rfl, rfl, rfl, trivial⟩ ⟨rfl, rfl, rfl, rfl, rfl, trivial⟩ ⟨⟨2, rfl⟩, ⟨3, rfl⟩, ⟨4, rfl⟩, ⟨0, rfl⟩, ⟨5, rfl⟩, trivial⟩), hM⟩
                · replace hM := cf hb10470 hM
                  refine dyg 6 (v := .bool u10390.2.2) rfl (by kernel_rfl) (by kernel_rfl) (by kernel_rfl) rfl hQ hS (y_move hS rfl) rfl rfl rfl hb10470 rfl rfl fun a hS => ?_
                  refine dyg 7 (v := .bool u10390.2.2) rfl (by kernel_rfl) (by kernel_rfl) (by kernel_rfl) rfl hQ hS (y_move hS rfl) rfl rfl rfl hb10470 rfl rfl fun a hS => ?_
                  rcases bool2 (u10390.2.2) with hb10471 | hb10471
                  · replace hM := ct hb10471 hM
                    refine dyg (l := []) 8 (v := .agg #[.int .i64 u10390.2.1.Kind, .string u10390.2.1.Text]) rfl (by kernel_rfl) (by kernel_rfl) (by kernel_rfl) (by kernel_rfl) hQ hS (y_load hS rfl ty28 0 rfl eo_nil (us := [.int .i64 u10390.2.1.Kind, .string u10390.2.1.Text]) rfl rfl (fun h => by cases h)) rfl rfl rfl hb10471 rfl rfl fun a hS => ?_
                    refine dyg 9 (v := v8377) rfl (by kernel_rfl) (by kernel_rfl) (by kernel_rfl) rfl hQ hS (y_move hS rfl) rfl rfl rfl hb10471 rfl rfl fun a hS => ?_
                    refine dyg 10 (v := v8377) rfl (by kernel_rfl) (by kernel_rfl) (by kernel_rfl) rfl hQ hS (y_move hS rfl) rfl rfl rfl hb10471 rfl rfl fun a hS => ?_
                    refine dyg 11 (v := .int .i64 (have8376.length : Int)) rfl (by kernel_rfl) (by kernel_rfl) (by kernel_rfl) rfl hQ hS (y_leno (R := R_KeyD) (xs := have8376) hS sl24 rfl 3 rfl 2 rfl) rfl rfl rfl hb10471 rfl rfl fun a hS => ?_
                    refine dyg 12 (v := .int .i64 (IntKind.i64.wrap ((have8376.length : Int) - 1))) rfl (by kernel_rfl) (by kernel_rfl) (by kernel_rfl) rfl hQ hS (y_int hS rfl rfl rfl) rfl rfl rfl hb10471 rfl rfl fun a hS => ?_
                    obtain ⟨e10472, he10472, hM⟩ := bd hM
                    obtain ⟨b10473, o10474, p10479, cs10476, hr10475, hO10477, hC10478, hy10480⟩ := d_indexo (R := R_KeyD) hS sl24 ty28 3 rfl 2 rfl he10472
                    obtain rfl := hr10475
                    refine dyg 13 (v := .pointer (some ⟨b10473, o10474, none⟩)) rfl (by kernel_rfl) (by kernel_rfl) (by kernel_rfl) rfl hQ hS (hy10480 rfl rfl) rfl rfl rfl hb10471 rfl rfl fun a hS => ?_
                    refine dyg (l := []) 14 (v := .agg #[.int .i64 e10472.Kind, .string e10472.Text]) rfl (by kernel_rfl) (by kernel_rfl) (by kernel_rfl) (by kernel_rfl) hQ hS (y_loado (k := 0) hS ty28 3 rfl hO10477 hC10478 rfl eo_nil (us := [.int .i64 e10472.Kind, .string e10472.Text]) rfl rfl (fun h => by cases h)) rfl rfl rfl hb10471 rfl rfl fun a hS => ?_
                    refine dyg 15 (v := .bool (!((u10390.2.1.Kind : Int) == e10472.Kind && u10390.2.1.Text.toList == e10472.Text.toList))) rfl (by kernel_rfl) (by kernel_rfl) (by kernel_rfl) rfl hQ hS (eq28n hS rfl rfl) rfl rfl rfl hb10471 rfl rfl fun a hS => ?_
                    refine dyg 16 (v := .bool (!((u10390.2.1.Kind : Int) == e10472.Kind && u10390.2.1.Text.toList == e10472.Text.toList))) rfl (by kernel_rfl) (by kernel_rfl) (by kernel_rfl) rfl hQ hS (y_pickt hS rfl hb10471 rfl) rfl rfl rfl hb10470 rfl rfl fun a hS => ?_
                    refine dy 17 (v := .bool (!((u10390.2.1.Kind : Int) == e10472.Kind && u10390.2.1.Text.toList == e10472.Text.toList))) rfl (by kernel_rfl) (by kernel_rfl) (by kernel_rfl) rfl hQ hS (y_pickf hS rfl hb10470 rfl) rfl rfl rfl fun a hS => ?_
                    refine wpE_done (by kernel_rfl) ?_ _
                    try simp only [Exit.then, Exit.inBlock, ↓reduceIte, Nat.reduceEqDiff]
                    exact ⟨(!((u10390.2.1.Kind : Int) == e10472.Kind && u10390.2.1.Text.toList == e10472.Text.toList)), (hS.meet [3, 4, 5, 2, 1] (by decide) ⟨rfl, rfl, rfl, rfl, rfl, rfl, rfl, rfl, rfl, trivial⟩ ⟨rfl, rfl, rfl, rfl, rfl, trivial⟩ ⟨⟨2, rfl⟩, ⟨3, rfl⟩, ⟨4, rfl⟩, ⟨0, rfl⟩, ⟨5, rfl⟩, trivial⟩), hM⟩
                  · replace hM := cf hb10471 hM
                    refine dyn 8 rfl (by kernel_rfl) (by kernel_rfl) (by kernel_rfl) hQ hS rfl rfl rfl hb10471 rfl rfl fun a hS => ?_
                    refine dyn 9 rfl (by kernel_rfl) (by kernel_rfl) (by kernel_rfl) hQ hS rfl rfl rfl hb10471 rfl rfl fun a hS => ?_
                    refine dyn 10 rfl (by kernel_rfl) (by kernel_rfl) (by kernel_rfl) hQ hS rfl rfl rfl hb10471 rfl rfl fun a hS => ?_
                    refine dyn 11 rfl (by kernel_rfl) (by kernel_rfl) (by kernel_rfl) hQ hS rfl rfl rfl hb10471 rfl rfl fun a hS => ?_
                    refine dyn 12 rfl (by kernel_rfl) (by kernel_rfl) (by kernel_rfl) hQ hS rfl rfl rfl hb10471 rfl rfl fun a hS => ?_
                    refine dyn 13 rfl (by kernel_rfl) (by kernel_rfl) (by kernel_rfl) hQ hS rfl rfl rfl hb10471 rfl rfl fun a hS => ?_
                    refine dyn 14 rfl (by kernel_rfl) (by kernel_rfl) (by kernel_rfl) hQ hS rfl rfl rfl hb10471 rfl rfl fun a hS => ?_
                    refine dyn 15 rfl (by kernel_rfl) (by kernel_rfl) (by kernel_rfl) hQ hS rfl rfl rfl hb10471 rfl rfl fun a hS => ?_
                    refine dyg 16 (v := .bool false) rfl (by kernel_rfl) (by kernel_rfl) (by kernel_rfl) rfl hQ hS (y_pickf hS rfl hb10471 rfl) rfl rfl rfl hb10470 rfl rfl fun a hS => ?_
                    refine dy 17 (v := .bool false) rfl (by kernel_rfl) (by kernel_rfl) (by kernel_rfl) rfl hQ hS (y_pickf hS rfl hb10470 rfl) rfl rfl rfl fun a hS => ?_
                    refine wpE_done (by kernel_rfl) ?_ _
                    try simp only [Exit.then, Exit.inBlock, ↓reduceIte, Nat.reduceEqDiff]
                    exact ⟨false, (hS.meet [3, 4, 5, 2, 1] (by decide) ⟨rfl, rfl, rfl, rfl, rfl, rfl, rfl, rfl, rfl, trivial⟩ ⟨rfl, rfl, rfl, rfl, rfl, trivial⟩ ⟨⟨2, rfl⟩, ⟨3, rfl⟩, ⟨4, rfl⟩, ⟨0, rfl⟩, ⟨5, rfl⟩, trivial⟩), hM⟩
              · rintro a w ⟨g10443, hS, hM⟩
                unfold law32_DequeOnce_j5 at hM
                rcases bool2 (g10443) with hb10444 | hb10444
                · replace hM := ct hb10444 hM
                  refine c_t hS rfl hb10444 ?_
                  refine wp_seq_k fun K815 hK815 => ?_
                  refine r_list ?_
                  refine wl rfl (ky (v := .bool false) hS (y_assign hS rfl) rfl rfl fun a hS => ?_)
                  refine wpList_nil ?_
                  try simp only [Exit.then, Exit.inBlock, ↓reduceIte, Nat.reduceEqDiff]
                  refine hK815 _ _ ?_
                  refine wp_ret ?_
                  injection hM with hM
                  subst hM
                  have hr := hf1 _ rfl
                  subst hr
                  replace hMo1 := el_out hMo1
                  have hM := hMo1
                  injection hM with hM
                  subst hM
                  try simp only [Exit.then, Exit.inBlock, ↓reduceIte, Nat.reduceEqDiff]
                  refine ret_ok hS Tryd.results3 (res_tmp hS rfl res_nil) ?_
                  exact rfl
                · replace hM := cf hb10444 hM
                  refine c_f hS rfl hb10444 ?_
                  refine wp_skip ?_
                  try simp only [Exit.then, Exit.inBlock, ↓reduceIte, Nat.reduceEqDiff]
                  refine hK814 _ _ ?_
                  refine seq_j (J := fun a w => ∃ (have10450 : (List KeyD)) (v10451 : Value) (cl10452 : (List Value)), St W0 No T 126 [(3, .pointer (some ⟨b4773, 0, none⟩)), (4, v10451), (5, .int .i64 next8380), (8, .pointer (some ⟨b10393, 0, none⟩)), (20, v1), (21, .int .i64 (steps_.length : Int)), (22, .int .i64 g8381)] [.own v10451 28 R_KeyD.size cl10452, .own v8383 28 R_KeyD.size cl8384, .box b4773 [v8383] 26, .own vz10391_2 28 R_KeyD.size clz10391_3, .box b10393 [vz10391_2] 26] [RowsF R_KeyD cl10452 have10450, SlF (Rep.int .u8) v1 steps_, RowsF R_KeyD cl8384 d8382, RowsF R_KeyD clz10391_3 u10390.1.Keys, LvF] a w ∧ law32_DequeOnce_j4 next8380 g8381 u10390 have10450 = some f1) ?_ ?_
                  · skip
                    refine wp_seq_k fun K817 hK817 => ?_
                    refine r_list ?_
                    refine wl rfl (ky (v := .bool u10390.2.2) hS (y_move hS rfl) rfl rfl fun a hS => ?_)
                    refine wpList_nil ?_
                    try simp only [Exit.then, Exit.inBlock, ↓reduceIte, Nat.reduceEqDiff]
                    refine hK817 _ _ ?_
                    rcases bool2 (u10390.2.2) with hb10454 | hb10454
                    · replace hM := ct hb10454 hM
                      refine c_t hS rfl hb10454 ?_
                      refine r_list ?_
                      refine wl rfl (ky (v := v8377) hS (y_move hS rfl) rfl rfl fun a hS => ?_)
                      refine wl rfl (ky (v := v8377) hS (y_move hS rfl) rfl rfl fun a hS => ?_)
                      refine wl rfl (ky (v := .int .i64 (have8376.length : Int)) hS (y_leno (R := R_KeyD) (xs := have8376) hS sl24 rfl 0 rfl 0 rfl) rfl rfl fun a hS => ?_)
                      refine wl rfl (ky (v := .int .i64 (IntKind.i64.wrap ((have8376.length : Int) - 1))) hS (y_int hS rfl rfl rfl) rfl rfl fun a hS => ?_)
                      obtain ⟨l10455, hl10455, hM⟩ := bd hM
                      refine wl rfl (k_subo (R := R_KeyD) (k1 := .i64) hS sl24 ty28 rfl (.inr ⟨rfl, rfl⟩) (.inl ⟨_, rfl, rfl⟩) 0 rfl 0 rfl hl10455 rfl fun v10456 cl10457 a hS => ?_)
                      refine wl rfl (ky (v := v10456) hS (y_assign hS rfl) rfl rfl fun a hS => ?_)
                      refine wpList_nil ?_
                      try simp only [Exit.then, Exit.inBlock, ↓reduceIte, Nat.reduceEqDiff]
                      exact ⟨l10455, v10456, cl10457, (hS.meet [0, 1, 2, 3, 4] (by decide) ⟨rfl, rfl, rfl, rfl, rfl, rfl, rfl, trivial⟩ ⟨rfl, rfl, rfl, rfl, rfl, trivial⟩ ⟨⟨0, rfl⟩, ⟨2, rfl⟩, ⟨3, rfl⟩, ⟨4, rfl⟩, ⟨5, rfl⟩, trivial⟩), hM⟩
                    · replace hM := cf hb10454 hM
                      refine c_f hS rfl hb10454 ?_
                      refine wp_skip ?_
                      try simp only [Exit.then, Exit.inBlock, ↓reduceIte, Nat.reduceEqDiff]
                      exact ⟨have8376, v8377, cl8378, (hS.meet [0, 1, 2, 3, 4] (by decide) ⟨rfl, rfl, rfl, rfl, rfl, rfl, rfl, trivial⟩ ⟨rfl, rfl, rfl, rfl, rfl, trivial⟩ ⟨⟨0, rfl⟩, ⟨1, rfl⟩, ⟨2, rfl⟩, ⟨3, rfl⟩, ⟨4, rfl⟩, trivial⟩), hM⟩
                  · rintro a w ⟨have10450, v10451, cl10452, hS, hM⟩
                    unfold law32_DequeOnce_j4 at hM
                    refine r_list ?_
                    refine wl rfl (ky (v := .agg #[vz10391_2]) hS (y_load hS rfl ty26 4 rfl id (us := [vz10391_2]) rfl rfl (fun h => by cases h)) rfl rfl fun a hS => ?_)
                    refine wl rfl (k_store hS rfl rfl (us := [vz10391_2]) rfl ty26 2 rfl rfl rfl (oc (own_one (hS.own _ (List.mem_of_getElem? (i := 3) rfl)).1) on) fun w hk hS => ?_)
                    refine wpList_nil ?_
                    try simp only [Exit.then, Exit.inBlock, ↓reduceIte, Nat.reduceEqDiff]
                    exact ⟨have10450, next8380, u10390.1.Keys, v10451, cl10452, vz10391_2, clz10391_3, (hS.meet [0, 3, 2] (by decide) ⟨rfl, rfl, rfl, rfl, rfl, rfl, trivial⟩ ⟨rfl, rfl, rfl, trivial⟩ ⟨⟨0, rfl⟩, ⟨1, rfl⟩, ⟨3, rfl⟩, ⟨4, rfl⟩, trivial⟩), hM⟩
            · replace hM := cf hb10389 hM
              refine c_f hS rfl hb10389 ?_
              refine wp_seq_k fun K818 hK818 => ?_
              refine r_list ?_
              refine wl rfl (ky (v := .bool ((Int.tmod e10098 4 : Int) == 1)) hS (y_int hS rfl rfl rfl) rfl rfl fun a hS => ?_)
              refine wl rfl (ky (v := .bool ((Int.tmod e10098 4 : Int) == 1)) hS (y_assign hS rfl) rfl rfl fun a hS => ?_)
              refine wpList_nil ?_
              try simp only [Exit.then, Exit.inBlock, ↓reduceIte, Nat.reduceEqDiff]
              refine hK818 _ _ ?_
              rcases bool2 ((Int.tmod e10098 4 : Int) == 1) with hb10481 | hb10481
              · replace hM := ct hb10481 hM
                refine c_t hS rfl hb10481 ?_
                refine wp_seq_k fun K819 hK819 => ?_
                refine r_list ?_
                refine wl rfl (ky (v := .agg #[v8383]) hS (y_load hS rfl ty26 2 rfl id (us := [v8383]) rfl rfl (fun h => by cases h)) rfl rfl fun a hS => ?_)
                have hL := hS
                replace hL := hL.freeze (R := R_KeyD) 1 rfl 3 rfl
                obtain ⟨u10482, hu10482, hM⟩ := bd hM
                refine wl rfl (k_call hS ci14 rfl rfl (deque_Steal_c _ _ hL.dlt (DequeD.mk d8382) _ (hL.get 0 rfl) _ hu10482) fun _ w hR a hk hA => ?_)
                obtain ⟨vz10483_2, clz10483_3, he, ⟨hOvz10483_2, hFvz10483_2, hRvz10483_2⟩⟩ := hR
                replace he := he.symm
                subst he
                have hS := hA [.own vz10483_2 28 R_KeyD.size clz10483_3] (adds1 ⟨hOvz10483_2, by decide⟩ hFvz10483_2) (pw1 _)
                replace hS := hS.fact (RowsF R_KeyD clz10483_3 u10482.1.Keys) hRvz10483_2
                refine wl rfl (ky (v := .tuple #[.agg #[vz10483_2], .agg #[.int .i64 u10482.2.1.Kind, .string u10482.2.1.Text], .bool u10482.2.2]) hS (y_move hS rfl) rfl rfl fun a hS => ?_)
                refine wl rfl (ky (v := .agg #[vz10483_2]) hS (y_ex hS rfl rfl) rfl rfl fun a hS => ?_)
                refine wl rfl (ky (v := .agg #[.int .i64 u10482.2.1.Kind, .string u10482.2.1.Text]) hS (y_ex hS rfl rfl) rfl rfl fun a hS => ?_)
                refine wl rfl (ky (v := .bool u10482.2.2) hS (y_ex hS rfl rfl) rfl rfl fun a hS => ?_)
                refine wl rfl (k_alloc hS ze26 rfl fun b10485 hnb10487 a w hk hS => ?_)
                refine wl rfl (k_alloc hS ze28 rfl fun b10488 hnb10490 a w hk hS => ?_)
                refine wl rfl (k_store hS rfl rfl (us := [vz10483_2]) rfl ty26 1 rfl rfl rfl (oc (own_one (hS.own _ (List.mem_of_getElem? (i := 2) rfl)).1) on) fun w hk hS => ?_)
                refine wl rfl (k_store hS rfl rfl (us := [.int .i64 u10482.2.1.Kind, .string u10482.2.1.Text]) rfl ty28 0 rfl rfl rfl (oc rfl (oc rfl on)) fun w hk hS => ?_)
                refine wl rfl (ky (v := .bool u10482.2.2) hS (y_assign hS rfl) rfl rfl fun a hS => ?_)
                refine wpList_nil ?_
                try simp only [Exit.then, Exit.inBlock, ↓reduceIte, Nat.reduceEqDiff]
                refine hK819 _ _ ?_
                refine wp_seq_k fun K820 hK820 => ?_
                refine seq_j (J := fun a w => ∃ (g10535 : Bool), St W0 No T 126 [(3, .pointer (some ⟨b4773, 0, none⟩)), (4, v8377), (5, .int .i64 next8380), (11, .pointer (some ⟨b10485, 0, none⟩)), (13, .bool u10482.2.2), (20, v1), (21, .int .i64 (steps_.length : Int)), (22, .int .i64 g8381), (108, .bool g10535)] [.own v8377 28 R_KeyD.size cl8378, .own v8383 28 R_KeyD.size cl8384, .box b4773 [v8383] 26, .own vz10483_2 28 R_KeyD.size clz10483_3, .box b10485 [vz10483_2] 26] [RowsF R_KeyD cl8378 have8376, SlF (Rep.int .u8) v1 steps_, RowsF R_KeyD cl8384 d8382, RowsF R_KeyD clz10483_3 u10482.1.Keys, LvF] a w ∧ law32_DequeOnce_j7 have8376 next8380 g8381 u10482 g10535 = some f1) ?_ ?_
                · skip
                  refine draws [] hS mixed rfl (fun c a d v w h => by cases d <;> exact h) fun w hQ hS => ?_
                  refine dy 0 (v := .bool u10482.2.2) rfl (by kernel_rfl) (by kernel_rfl) (by kernel_rfl) rfl hQ hS (y_move hS rfl) rfl rfl rfl fun a hS => ?_
                  refine dy 1 (v := v8377) rfl (by kernel_rfl) (by kernel_rfl) (by kernel_rfl) rfl hQ hS (y_move hS rfl) rfl rfl rfl fun a hS => ?_
                  refine dy 2 (v := .int .i64 (have8376.length : Int)) rfl (by kernel_rfl) (by kernel_rfl) (by kernel_rfl) rfl hQ hS (y_leno (R := R_KeyD) (xs := have8376) hS sl24 rfl 3 rfl 2 rfl) rfl rfl rfl fun a hS => ?_
                  refine dy 3 (v := .bool (decide ((0 : Int) < (have8376.length : Int)))) rfl (by kernel_rfl) (by kernel_rfl) (by kernel_rfl) rfl hQ hS (y_int hS rfl rfl rfl) rfl rfl rfl fun a hS => ?_
                  refine dy 4 (v := .bool (u10482.2.2 != (decide ((0 : Int) < (have8376.length : Int))))) rfl (by kernel_rfl) (by kernel_rfl) (by kernel_rfl) rfl hQ hS (y_bool hS rfl rfl Tryd.underlying4 (.inr ⟨rfl, rfl⟩)) rfl rfl rfl fun a hS => ?_
                  refine dy 5 (v := .bool (u10482.2.2 != (decide ((0 : Int) < (have8376.length : Int))))) rfl (by kernel_rfl) (by kernel_rfl) (by kernel_rfl) rfl hQ hS (y_move hS rfl) rfl rfl rfl fun a hS => ?_
                  rcases bool2 (u10482.2.2 != (decide ((0 : Int) < (have8376.length : Int)))) with hb10562 | hb10562
                  · replace hM := ct hb10562 hM
                    refine dyn 6 rfl (by kernel_rfl) (by kernel_rfl) (by kernel_rfl) hQ hS rfl rfl rfl hb10562 rfl rfl fun a hS => ?_
                    refine dyn 7 rfl (by kernel_rfl) (by kernel_rfl) (by kernel_rfl) hQ hS rfl rfl rfl hb10562 rfl rfl fun a hS => ?_
                    refine dynu 8 rfl (by kernel_rfl) (by kernel_rfl) (by kernel_rfl) hQ hS rfl rfl rfl rfl rfl fun a hS => ?_
                    refine dynu 9 rfl (by kernel_rfl) (by kernel_rfl) (by kernel_rfl) hQ hS rfl rfl rfl rfl rfl fun a hS => ?_
                    refine dynu 10 rfl (by kernel_rfl) (by kernel_rfl) (by kernel_rfl) hQ hS rfl rfl rfl rfl rfl fun a hS => ?_
                    refine dynu 11 rfl (by kernel_rfl) (by kernel_rfl) (by kernel_rfl) hQ hS rfl rfl rfl rfl rfl fun a hS => ?_
                    refine dynu 12 rfl (by kernel_rfl) (by kernel_rfl) (by kernel_rfl) hQ hS rfl rfl rfl rfl rfl fun a hS => ?_
                    refine dyn 13 rfl (by kernel_rfl) (by kernel_rfl) (by kernel_rfl) hQ hS rfl rfl rfl hb10562 rfl rfl fun a hS => ?_
                    refine dy 14 (v := .bool true) rfl (by kernel_rfl) (by kernel_rfl) (by kernel_rfl) rfl hQ hS (y_pickt hS rfl hb10562 rfl) rfl rfl rfl fun a hS => ?_
                    refine wpE_done (by kernel_rfl) ?_ _
                    try simp only [Exit.then, Exit.inBlock, ↓reduceIte, Nat.reduceEqDiff]
                    exact ⟨true, (hS.meet [3, 4, 5, 2, 1] (by decide) ⟨rfl, rfl, rfl, rfl, rfl, rfl, rfl, rfl, rfl, trivial⟩ ⟨rfl, rfl, rfl, rfl, rfl, trivial⟩ ⟨⟨2, rfl⟩, ⟨3, rfl⟩, ⟨4, rfl⟩, ⟨0, rfl⟩, ⟨5, rfl⟩, trivial⟩), hM⟩
                  · replace hM := cf hb10562 hM
                    refine dyg 6 (v := .bool u10482.2.2) rfl (by kernel_rfl) (by kernel_rfl) (by kernel_rfl) rfl hQ hS (y_move hS rfl) rfl rfl rfl hb10562 rfl rfl fun a hS => ?_
                    refine dyg 7 (v := .bool u10482.2.2) rfl (by kernel_rfl) (by kernel_rfl) (by kernel_rfl) rfl hQ hS (y_move hS rfl) rfl rfl rfl hb10562 rfl rfl fun a hS => ?_
                    rcases bool2 (u10482.2.2) with hb10563 | hb10563
                    · replace hM := ct hb10563 hM
                      refine dyg (l := []) 8 (v := .agg #[.int .i64 u10482.2.1.Kind, .string u10482.2.1.Text]) rfl (by kernel_rfl) (by kernel_rfl) (by kernel_rfl) (by kernel_rfl) hQ hS (y_load hS rfl ty28 0 rfl eo_nil (us := [.int .i64 u10482.2.1.Kind, .string u10482.2.1.Text]) rfl rfl (fun h => by cases h)) rfl rfl rfl hb10563 rfl rfl fun a hS => ?_
                      refine dyg 9 (v := v8377) rfl (by kernel_rfl) (by kernel_rfl) (by kernel_rfl) rfl hQ hS (y_move hS rfl) rfl rfl rfl hb10563 rfl rfl fun a hS => ?_
                      obtain ⟨e10564, he10564, hM⟩ := bd hM
                      obtain ⟨b10565, o10566, p10571, cs10568, hr10567, hO10569, hC10570, hy10572⟩ := d_indexo (R := R_KeyD) hS sl24 ty28 3 rfl 2 rfl he10564
                      obtain rfl := hr10567
                      refine dyg 10 (v := .pointer (some ⟨b10565, o10566, none⟩)) rfl (by kernel_rfl) (by kernel_rfl) (by kernel_rfl) rfl hQ hS (hy10572 rfl rfl) rfl rfl rfl hb10563 rfl rfl fun a hS => ?_
                      refine dyg (l := []) 11 (v := .agg #[.int .i64 e10564.Kind, .string e10564.Text]) rfl (by kernel_rfl) (by kernel_rfl) (by kernel_rfl) (by kernel_rfl) hQ hS (y_loado (k := 0) hS ty28 3 rfl hO10569 hC10570 rfl eo_nil (us := [.int .i64 e10564.Kind, .string e10564.Text]) rfl rfl (fun h => by cases h)) rfl rfl rfl hb10563 rfl rfl fun a hS => ?_
                      refine dyg 12 (v := .bool (!((u10482.2.1.Kind : Int) == e10564.Kind && u10482.2.1.Text.toList == e10564.Text.toList))) rfl (by kernel_rfl) (by kernel_rfl) (by kernel_rfl) rfl hQ hS (eq28n hS rfl rfl) rfl rfl rfl hb10563 rfl rfl fun a hS => ?_
                      refine dyg 13 (v := .bool (!((u10482.2.1.Kind : Int) == e10564.Kind && u10482.2.1.Text.toList == e10564.Text.toList))) rfl (by kernel_rfl) (by kernel_rfl) (by kernel_rfl) rfl hQ hS (y_pickt hS rfl hb10563 rfl) rfl rfl rfl hb10562 rfl rfl fun a hS => ?_
                      refine dy 14 (v := .bool (!((u10482.2.1.Kind : Int) == e10564.Kind && u10482.2.1.Text.toList == e10564.Text.toList))) rfl (by kernel_rfl) (by kernel_rfl) (by kernel_rfl) rfl hQ hS (y_pickf hS rfl hb10562 rfl) rfl rfl rfl fun a hS => ?_
                      refine wpE_done (by kernel_rfl) ?_ _
                      try simp only [Exit.then, Exit.inBlock, ↓reduceIte, Nat.reduceEqDiff]
                      exact ⟨(!((u10482.2.1.Kind : Int) == e10564.Kind && u10482.2.1.Text.toList == e10564.Text.toList)), (hS.meet [3, 4, 5, 2, 1] (by decide) ⟨rfl, rfl, rfl, rfl, rfl, rfl, rfl, rfl, rfl, trivial⟩ ⟨rfl, rfl, rfl, rfl, rfl, trivial⟩ ⟨⟨2, rfl⟩, ⟨3, rfl⟩, ⟨4, rfl⟩, ⟨0, rfl⟩, ⟨5, rfl⟩, trivial⟩), hM⟩
                    · replace hM := cf hb10563 hM
                      refine dyn 8 rfl (by kernel_rfl) (by kernel_rfl) (by kernel_rfl) hQ hS rfl rfl rfl hb10563 rfl rfl fun a hS => ?_
                      refine dyn 9 rfl (by kernel_rfl) (by kernel_rfl) (by kernel_rfl) hQ hS rfl rfl rfl hb10563 rfl rfl fun a hS => ?_
                      refine dyn 10 rfl (by kernel_rfl) (by kernel_rfl) (by kernel_rfl) hQ hS rfl rfl rfl hb10563 rfl rfl fun a hS => ?_
                      refine dyn 11 rfl (by kernel_rfl) (by kernel_rfl) (by kernel_rfl) hQ hS rfl rfl rfl hb10563 rfl rfl fun a hS => ?_
                      refine dyn 12 rfl (by kernel_rfl) (by kernel_rfl) (by kernel_rfl) hQ hS rfl rfl rfl hb10563 rfl rfl fun a hS => ?_
                      refine dyg 13 (v := .bool false) rfl (by kernel_rfl) (by kernel_rfl) (by kernel_rfl) rfl hQ hS (y_pickf hS rfl hb10563 rfl) rfl rfl rfl hb10562 rfl rfl fun a hS => ?_
                      refine dy 14 (v := .bool false) rfl (by kernel_rfl) (by kernel_rfl) (by kernel_rfl) rfl hQ hS (y_pickf hS rfl hb10562 rfl) rfl rfl rfl fun a hS => ?_
                      refine wpE_done (by kernel_rfl) ?_ _
                      try simp only [Exit.then, Exit.inBlock, ↓reduceIte, Nat.reduceEqDiff]
                      exact ⟨false, (hS.meet [3, 4, 5, 2, 1] (by decide) ⟨rfl, rfl, rfl, rfl, rfl, rfl, rfl, rfl, rfl, trivial⟩ ⟨rfl, rfl, rfl, rfl, rfl, trivial⟩ ⟨⟨2, rfl⟩, ⟨3, rfl⟩, ⟨4, rfl⟩, ⟨0, rfl⟩, ⟨5, rfl⟩, trivial⟩), hM⟩
                · rintro a w ⟨g10535, hS, hM⟩
                  unfold law32_DequeOnce_j7 at hM
                  rcases bool2 (g10535) with hb10536 | hb10536
                  · replace hM := ct hb10536 hM
                    refine c_t hS rfl hb10536 ?_
                    refine wp_seq_k fun K821 hK821 => ?_
                    refine r_list ?_
                    refine wl rfl (ky (v := .bool false) hS (y_assign hS rfl) rfl rfl fun a hS => ?_)
                    refine wpList_nil ?_
                    try simp only [Exit.then, Exit.inBlock, ↓reduceIte, Nat.reduceEqDiff]
                    refine hK821 _ _ ?_
                    refine wp_ret ?_
                    injection hM with hM
                    subst hM
                    have hr := hf1 _ rfl
                    subst hr
                    replace hMo1 := el_out hMo1
                    have hM := hMo1
                    injection hM with hM
                    subst hM
                    try simp only [Exit.then, Exit.inBlock, ↓reduceIte, Nat.reduceEqDiff]
                    refine ret_ok hS Tryd.results3 (res_tmp hS rfl res_nil) ?_
                    exact rfl
                  · replace hM := cf hb10536 hM
                    refine c_f hS rfl hb10536 ?_
                    refine wp_skip ?_
                    try simp only [Exit.then, Exit.inBlock, ↓reduceIte, Nat.reduceEqDiff]
                    refine hK820 _ _ ?_
                    refine seq_j (J := fun a w => ∃ (have10542 : (List KeyD)) (v10543 : Value) (cl10544 : (List Value)), St W0 No T 126 [(3, .pointer (some ⟨b4773, 0, none⟩)), (4, v10543), (5, .int .i64 next8380), (11, .pointer (some ⟨b10485, 0, none⟩)), (20, v1), (21, .int .i64 (steps_.length : Int)), (22, .int .i64 g8381)] [.own v10543 28 R_KeyD.size cl10544, .own v8383 28 R_KeyD.size cl8384, .box b4773 [v8383] 26, .own vz10483_2 28 R_KeyD.size clz10483_3, .box b10485 [vz10483_2] 26] [RowsF R_KeyD cl10544 have10542, SlF (Rep.int .u8) v1 steps_, RowsF R_KeyD cl8384 d8382, RowsF R_KeyD clz10483_3 u10482.1.Keys, LvF] a w ∧ law32_DequeOnce_j6 next8380 g8381 u10482 have10542 = some f1) ?_ ?_
                    · skip
                      refine wp_seq_k fun K823 hK823 => ?_
                      refine r_list ?_
                      refine wl rfl (ky (v := .bool u10482.2.2) hS (y_move hS rfl) rfl rfl fun a hS => ?_)
                      refine wpList_nil ?_
                      try simp only [Exit.then, Exit.inBlock, ↓reduceIte, Nat.reduceEqDiff]
                      refine hK823 _ _ ?_
                      rcases bool2 (u10482.2.2) with hb10546 | hb10546
                      · replace hM := ct hb10546 hM
                        refine c_t hS rfl hb10546 ?_
                        refine r_list ?_
                        refine wl rfl (ky (v := v8377) hS (y_move hS rfl) rfl rfl fun a hS => ?_)
                        obtain ⟨l10547, hl10547, hM⟩ := bd hM
                        refine wl rfl (k_subo (R := R_KeyD) (k2 := .i64) hS sl24 ty28 rfl (.inl ⟨_, rfl, rfl⟩) (.inr ⟨rfl, rfl⟩) 0 rfl 0 rfl hl10547 rfl fun v10548 cl10549 a hS => ?_)
                        refine wl rfl (ky (v := v10548) hS (y_assign hS rfl) rfl rfl fun a hS => ?_)
                        refine wpList_nil ?_
                        try simp only [Exit.then, Exit.inBlock, ↓reduceIte, Nat.reduceEqDiff]
                        exact ⟨l10547, v10548, cl10549, (hS.meet [0, 1, 2, 3, 4] (by decide) ⟨rfl, rfl, rfl, rfl, rfl, rfl, rfl, trivial⟩ ⟨rfl, rfl, rfl, rfl, rfl, trivial⟩ ⟨⟨0, rfl⟩, ⟨2, rfl⟩, ⟨3, rfl⟩, ⟨4, rfl⟩, ⟨5, rfl⟩, trivial⟩), hM⟩
                      · replace hM := cf hb10546 hM
                        refine c_f hS rfl hb10546 ?_
                        refine wp_skip ?_
                        try simp only [Exit.then, Exit.inBlock, ↓reduceIte, Nat.reduceEqDiff]
                        exact ⟨have8376, v8377, cl8378, (hS.meet [0, 1, 2, 3, 4] (by decide) ⟨rfl, rfl, rfl, rfl, rfl, rfl, rfl, trivial⟩ ⟨rfl, rfl, rfl, rfl, rfl, trivial⟩ ⟨⟨0, rfl⟩, ⟨1, rfl⟩, ⟨2, rfl⟩, ⟨3, rfl⟩, ⟨4, rfl⟩, trivial⟩), hM⟩
                    · rintro a w ⟨have10542, v10543, cl10544, hS, hM⟩
                      unfold law32_DequeOnce_j6 at hM
                      refine r_list ?_
                      refine wl rfl (ky (v := .agg #[vz10483_2]) hS (y_load hS rfl ty26 4 rfl id (us := [vz10483_2]) rfl rfl (fun h => by cases h)) rfl rfl fun a hS => ?_)
                      refine wl rfl (k_store hS rfl rfl (us := [vz10483_2]) rfl ty26 2 rfl rfl rfl (oc (own_one (hS.own _ (List.mem_of_getElem? (i := 3) rfl)).1) on) fun w hk hS => ?_)
                      refine wpList_nil ?_
                      try simp only [Exit.then, Exit.inBlock, ↓reduceIte, Nat.reduceEqDiff]
                      exact ⟨have10542, next8380, u10482.1.Keys, v10543, cl10544, vz10483_2, clz10483_3, (hS.meet [0, 3, 2] (by decide) ⟨rfl, rfl, rfl, rfl, rfl, rfl, trivial⟩ ⟨rfl, rfl, rfl, trivial⟩ ⟨⟨0, rfl⟩, ⟨1, rfl⟩, ⟨3, rfl⟩, ⟨4, rfl⟩, trivial⟩), hM⟩
              · replace hM := cf hb10481 hM
                refine c_f hS rfl hb10481 ?_
                refine seq_j (J := fun a w => ∃ (e10611 : Int) (x10612 : (List KeyD)) (b10609 : Nat) (v10613 : Value) (cl10614 : (List Value)), St W0 No T 126 [(3, .pointer (some ⟨b4773, 0, none⟩)), (4, v8377), (5, .int .i64 next8380), (14, .pointer (some ⟨b10609, 0, none⟩)), (15, .int .i64 e10611), (20, v1), (21, .int .i64 (steps_.length : Int)), (22, .int .i64 g8381)] [.own v8377 28 R_KeyD.size cl8378, .own v8383 28 R_KeyD.size cl8384, .box b4773 [v8383] 26, .own v10613 28 R_KeyD.size cl10614, .box b10609 [v10613] 26] [RowsF R_KeyD cl8378 have8376, SlF (Rep.int .u8) v1 steps_, RowsF R_KeyD cl8384 d8382, RowsF R_KeyD cl10614 x10612, LvF] a w ∧ law32_DequeOnce_j9 have8376 next8380 g8381 e10611 x10612 = some f1) ?_ ?_
                · skip
                  obtain ⟨N10648, hN10648⟩ : ∃ N, N = w.heap.size := ⟨_, rfl⟩
                  replace hS := hS.fact (SzF N10648) (Nat.le_of_eq hN10648)
                  refine draws [(9, .new N10648)] hS mixed rfl (fun c a d v w h => by cases d <;> exact h) fun w hQ hS => ?_
                  refine dy (l := []) 0 (v := .agg #[v8383]) rfl (by kernel_rfl) (by kernel_rfl) (by kernel_rfl) (by kernel_rfl) hQ hS (y_load hS rfl ty26 2 rfl eo_nil (us := [v8383]) rfl rfl (fun h => by cases h)) rfl rfl rfl fun a hS => ?_
                  refine dy 1 (v := .int .i64 next8380) rfl (by kernel_rfl) (by kernel_rfl) (by kernel_rfl) rfl hQ hS (y_move hS rfl) rfl rfl rfl fun a hS => ?_
                  refine dy 2 (v := .int .i64 (Int.tmod next8380 100)) rfl (by kernel_rfl) (by kernel_rfl) (by kernel_rfl) rfl hQ hS (y_rem hS rfl rfl (by decide)) rfl rfl rfl fun a hS => ?_
                  obtain ⟨u10649, hu10649, hM⟩ := bd hM
                  refine wpE_two (i := 3) (j := 8) rfl rfl (by kernel_rfl) rfl rfl ?_ ?_
                  · skip
                    refine id (k_call hS ci16 rfl rfl (ref23_Cell_c _ _ hS.dlt (hS.get 5 rfl) (Int.tmod next8380 100) _ hu10649) fun _ w hR a hk hA => ⟨stN (hk), ?_⟩)
                    have he := Eq.symm hR
                    subst he
                    have hS := hA [] (fun r hr => by cases hr) List.Pairwise.nil
                    have hL := hS
                    replace hL := hL.freeze (R := R_KeyD) 1 rfl 4 rfl
                    obtain ⟨u10651, hu10651, hM⟩ := bd hM
                    refine wpE_two (i := 4) (j := 8) rfl rfl (by kernel_rfl) rfl rfl ?_ ?_
                    · skip
                      have hL := hS
                      replace hL := hL.freeze (R := R_KeyD) 1 rfl 4 rfl
                      refine id (k_call hS ci15 rfl rfl (deque_Push_c _ _ hL.dlt (hL.get 6 rfl) (DequeD.mk d8382) u10649 _ (hL.get 0 rfl) _ hu10651) fun _ w hR a hk hA => ⟨stN (hk), ?_⟩)
                      obtain ⟨vz10652_2, clz10652_3, he, ⟨hOvz10652_2, hFvz10652_2, hRvz10652_2⟩⟩ := hR
                      replace he := he.symm
                      subst he
                      have hS := hA [.own vz10652_2 28 R_KeyD.size clz10652_3] (adds1 ⟨hOvz10652_2, by decide⟩ hFvz10652_2) (pw1 _)
                      replace hS := hS.fact (RowsF R_KeyD clz10652_3 u10651.1.Keys) hRvz10652_2
                      refine dy 5 (v := .tuple #[.agg #[vz10652_2], .int .i64 u10651.2]) rfl (by kernel_rfl) (by kernel_rfl) (by kernel_rfl) rfl hQ hS (y_move hS rfl) rfl rfl rfl fun a hS => ?_
                      refine dy 6 (v := .agg #[vz10652_2]) rfl (by kernel_rfl) (by kernel_rfl) (by kernel_rfl) rfl hQ hS (y_ex hS rfl rfl) rfl rfl rfl fun a hS => ?_
                      refine dy 7 (v := .int .i64 u10651.2) rfl (by kernel_rfl) (by kernel_rfl) (by kernel_rfl) rfl hQ hS (y_ex hS rfl rfl) rfl rfl rfl fun a hS => ?_
                      have hz10657 := (hS.get 1 rfl : N10648 ≤ w.heap.size)
                      refine wpE_one (i := 8) rfl (by kernel_rfl) rfl (k_alloc hS ze26 rfl fun b10654 hnb10656 a w hk hS => ⟨stN (hk), ?_⟩)
                      refine wpE_upd 9 (.blk (some b10654)) _ (by kernel_rfl) (etNB (Nat.le_trans hz10657 hnb10656)) ?_
                      refine wpE_one (i := 9) rfl (by kernel_rfl) rfl (k_store hS rfl rfl (us := [vz10652_2]) rfl ty26 0 rfl rfl rfl (oc (own_one (hS.own _ (List.mem_of_getElem? (i := 1) rfl)).1) on) fun w hk hS => ⟨stM rfl hk etBox, ?_⟩)
                      refine dy 10 (v := .int .i64 u10651.2) rfl (by kernel_rfl) (by kernel_rfl) (by kernel_rfl) rfl hQ hS (y_assign hS rfl) rfl rfl rfl fun a hS => ?_
                      refine wpE_done (by kernel_rfl) ?_ _
                      try simp only [Exit.then, Exit.inBlock, ↓reduceIte, Nat.reduceEqDiff]
                      exact ⟨u10651.2, u10651.1.Keys, b10654, vz10652_2, clz10652_3, (hS.meet [2, 3, 4, 1, 0] (by decide) ⟨rfl, rfl, rfl, rfl, rfl, rfl, rfl, rfl, trivial⟩ ⟨rfl, rfl, rfl, rfl, rfl, trivial⟩ ⟨⟨3, rfl⟩, ⟨4, rfl⟩, ⟨5, rfl⟩, ⟨0, rfl⟩, ⟨6, rfl⟩, trivial⟩), hM⟩
                    · skip
                      have hz10655 := (hS.get 0 rfl : N10648 ≤ w.heap.size)
                      refine id (k_alloc hS ze26 rfl fun b10652 hnb10654 a w hk hS => ⟨stN (hk), ?_⟩)
                      refine wpE_upd 9 (.blk (some b10652)) _ (by kernel_rfl) (etNB (Nat.le_trans hz10655 hnb10654)) ?_
                      have hL := hS
                      replace hL := hL.freeze (R := R_KeyD) 2 rfl 4 rfl
                      refine wpE_one (i := 4) rfl (by kernel_rfl) rfl (k_call hS ci15 rfl rfl (deque_Push_c _ _ hL.dlt (hL.get 6 rfl) (DequeD.mk d8382) u10649 _ (hL.get 0 rfl) _ hu10651) fun _ w hR a hk hA => ⟨stN (hk), ?_⟩)
                      obtain ⟨vz10656_2, clz10656_3, he, ⟨hOvz10656_2, hFvz10656_2, hRvz10656_2⟩⟩ := hR
                      replace he := he.symm
                      subst he
                      have hS := hA [.own vz10656_2 28 R_KeyD.size clz10656_3] (adds1 ⟨hOvz10656_2, by decide⟩ hFvz10656_2) (pw1 _)
                      replace hS := hS.fact (RowsF R_KeyD clz10656_3 u10651.1.Keys) hRvz10656_2
                      refine dy 5 (v := .tuple #[.agg #[vz10656_2], .int .i64 u10651.2]) rfl (by kernel_rfl) (by kernel_rfl) (by kernel_rfl) rfl hQ hS (y_move hS rfl) rfl rfl rfl fun a hS => ?_
                      refine dy 6 (v := .agg #[vz10656_2]) rfl (by kernel_rfl) (by kernel_rfl) (by kernel_rfl) rfl hQ hS (y_ex hS rfl rfl) rfl rfl rfl fun a hS => ?_
                      refine dy 7 (v := .int .i64 u10651.2) rfl (by kernel_rfl) (by kernel_rfl) (by kernel_rfl) rfl hQ hS (y_ex hS rfl rfl) rfl rfl rfl fun a hS => ?_
                      refine wpE_one (i := 9) rfl (by kernel_rfl) rfl (k_store hS rfl rfl (us := [vz10656_2]) rfl ty26 1 rfl rfl rfl (oc (own_one (hS.own _ (List.mem_of_getElem? (i := 0) rfl)).1) on) fun w hk hS => ⟨stM rfl hk etBox, ?_⟩)
                      refine dy 10 (v := .int .i64 u10651.2) rfl (by kernel_rfl) (by kernel_rfl) (by kernel_rfl) rfl hQ hS (y_assign hS rfl) rfl rfl rfl fun a hS => ?_
                      refine wpE_done (by kernel_rfl) ?_ _
                      try simp only [Exit.then, Exit.inBlock, ↓reduceIte, Nat.reduceEqDiff]
                      exact ⟨u10651.2, u10651.1.Keys, b10652, vz10656_2, clz10656_3, (hS.meet [2, 3, 4, 0, 1] (by decide) ⟨rfl, rfl, rfl, rfl, rfl, rfl, rfl, rfl, trivial⟩ ⟨rfl, rfl, rfl, rfl, rfl, trivial⟩ ⟨⟨3, rfl⟩, ⟨4, rfl⟩, ⟨5, rfl⟩, ⟨0, rfl⟩, ⟨6, rfl⟩, trivial⟩), hM⟩
                  · skip
                    have hz10653 := (hS.get 0 rfl : N10648 ≤ w.heap.size)
                    refine id (k_alloc hS ze26 rfl fun b10650 hnb10652 a w hk hS => ⟨stN (hk), ?_⟩)
                    refine wpE_upd 9 (.blk (some b10650)) _ (by kernel_rfl) (etNB (Nat.le_trans hz10653 hnb10652)) ?_
                    refine wpE_one (i := 3) rfl (by kernel_rfl) rfl (k_call hS ci16 rfl rfl (ref23_Cell_c _ _ hS.dlt (hS.get 5 rfl) (Int.tmod next8380 100) _ hu10649) fun _ w hR a hk hA => ⟨stN (hk), ?_⟩)
                    have he := Eq.symm hR
                    subst he
                    have hS := hA [] (fun r hr => by cases hr) List.Pairwise.nil
                    have hL := hS
                    replace hL := hL.freeze (R := R_KeyD) 2 rfl 4 rfl
                    obtain ⟨u10655, hu10655, hM⟩ := bd hM
                    refine wpE_one (i := 4) rfl (by kernel_rfl) rfl (k_call hS ci15 rfl rfl (deque_Push_c _ _ hL.dlt (hL.get 6 rfl) (DequeD.mk d8382) u10649 _ (hL.get 0 rfl) _ hu10655) fun _ w hR a hk hA => ⟨stN (hk), ?_⟩)
                    obtain ⟨vz10656_2, clz10656_3, he, ⟨hOvz10656_2, hFvz10656_2, hRvz10656_2⟩⟩ := hR
                    replace he := he.symm
                    subst he
                    have hS := hA [.own vz10656_2 28 R_KeyD.size clz10656_3] (adds1 ⟨hOvz10656_2, by decide⟩ hFvz10656_2) (pw1 _)
                    replace hS := hS.fact (RowsF R_KeyD clz10656_3 u10655.1.Keys) hRvz10656_2
                    refine dy 5 (v := .tuple #[.agg #[vz10656_2], .int .i64 u10655.2]) rfl (by kernel_rfl) (by kernel_rfl) (by kernel_rfl) rfl hQ hS (y_move hS rfl) rfl rfl rfl fun a hS => ?_
                    refine dy 6 (v := .agg #[vz10656_2]) rfl (by kernel_rfl) (by kernel_rfl) (by kernel_rfl) rfl hQ hS (y_ex hS rfl rfl) rfl rfl rfl fun a hS => ?_
                    refine dy 7 (v := .int .i64 u10655.2) rfl (by kernel_rfl) (by kernel_rfl) (by kernel_rfl) rfl hQ hS (y_ex hS rfl rfl) rfl rfl rfl fun a hS => ?_
                    refine wpE_one (i := 9) rfl (by kernel_rfl) rfl (k_store hS rfl rfl (us := [vz10656_2]) rfl ty26 1 rfl rfl rfl (oc (own_one (hS.own _ (List.mem_of_getElem? (i := 0) rfl)).1) on) fun w hk hS => ⟨stM rfl hk etBox, ?_⟩)
                    refine dy 10 (v := .int .i64 u10655.2) rfl (by kernel_rfl) (by kernel_rfl) (by kernel_rfl) rfl hQ hS (y_assign hS rfl) rfl rfl rfl fun a hS => ?_
                    refine wpE_done (by kernel_rfl) ?_ _
                    try simp only [Exit.then, Exit.inBlock, ↓reduceIte, Nat.reduceEqDiff]
                    exact ⟨u10655.2, u10655.1.Keys, b10650, vz10656_2, clz10656_3, (hS.meet [2, 3, 4, 0, 1] (by decide) ⟨rfl, rfl, rfl, rfl, rfl, rfl, rfl, rfl, trivial⟩ ⟨rfl, rfl, rfl, rfl, rfl, trivial⟩ ⟨⟨3, rfl⟩, ⟨4, rfl⟩, ⟨5, rfl⟩, ⟨0, rfl⟩, ⟨6, rfl⟩, trivial⟩), hM⟩
                · rintro a w ⟨e10611, x10612, b10609, v10613, cl10614, hS, hM⟩
                  unfold law32_DequeOnce_j9 at hM
                  refine wp_seq_k fun K824 hK824 => ?_
                  refine wp_seq_k fun K825 hK825 => ?_
                  refine r_list ?_
                  refine wl rfl (ky (v := .int .i64 e10611) hS (y_move hS rfl) rfl rfl fun a hS => ?_)
                  refine wl rfl (ky (v := .bool ((e10611 : Int) == 0)) hS (y_int hS rfl rfl rfl) rfl rfl fun a hS => ?_)
                  refine wl rfl (ky (v := v8377) hS (y_move hS rfl) rfl rfl fun a hS => ?_)
                  refine wl rfl (ky (v := .int .i64 (have8376.length : Int)) hS (y_leno (R := R_KeyD) (xs := have8376) hS sl24 rfl 0 rfl 0 rfl) rfl rfl fun a hS => ?_)
                  refine wl rfl (ky (v := .bool (decide (((have8376.length : Int) : Int) < 64))) hS (y_int hS rfl rfl rfl) rfl rfl fun a hS => ?_)
                  refine wl rfl (ky (v := .bool (((e10611 : Int) == 0) != (decide (((have8376.length : Int) : Int) < 64)))) hS (y_bool hS rfl rfl Tryd.underlying4 (.inr ⟨rfl, rfl⟩)) rfl rfl fun a hS => ?_)
                  refine wpList_nil ?_
                  try simp only [Exit.then, Exit.inBlock, ↓reduceIte, Nat.reduceEqDiff]
                  refine hK825 _ _ ?_
                  rcases bool2 (((e10611 : Int) == 0) != (decide (((have8376.length : Int) : Int) < 64))) with hb10616 | hb10616
                  · replace hM := ct hb10616 hM
                    refine c_t hS rfl hb10616 ?_
                    refine wp_seq_k fun K826 hK826 => ?_
                    refine r_list ?_
                    refine wl rfl (ky (v := .bool false) hS (y_assign hS rfl) rfl rfl fun a hS => ?_)
                    refine wpList_nil ?_
                    try simp only [Exit.then, Exit.inBlock, ↓reduceIte, Nat.reduceEqDiff]
                    refine hK826 _ _ ?_
                    refine wp_ret ?_
                    injection hM with hM
                    subst hM
                    have hr := hf1 _ rfl
                    subst hr
                    replace hMo1 := el_out hMo1
                    have hM := hMo1
                    injection hM with hM
                    subst hM
                    try simp only [Exit.then, Exit.inBlock, ↓reduceIte, Nat.reduceEqDiff]
                    refine ret_ok hS Tryd.results3 (res_tmp hS rfl res_nil) ?_
                    exact rfl
                  · replace hM := cf hb10616 hM
                    refine c_f hS rfl hb10616 ?_
                    refine wp_skip ?_
                    try simp only [Exit.then, Exit.inBlock, ↓reduceIte, Nat.reduceEqDiff]
                    refine hK824 _ _ ?_
                    refine seq_j (J := fun a w => ∃ (have10626 : (List KeyD)) (next10630 : Int) (v10627 : Value) (cl10628 : (List Value)), St W0 No T 126 [(3, .pointer (some ⟨b4773, 0, none⟩)), (4, v10627), (5, .int .i64 next10630), (14, .pointer (some ⟨b10609, 0, none⟩)), (20, v1), (21, .int .i64 (steps_.length : Int)), (22, .int .i64 g8381)] [.own v10627 28 R_KeyD.size cl10628, .own v8383 28 R_KeyD.size cl8384, .box b4773 [v8383] 26, .own v10613 28 R_KeyD.size cl10614, .box b10609 [v10613] 26] [RowsF R_KeyD cl10628 have10626, SlF (Rep.int .u8) v1 steps_, RowsF R_KeyD cl8384 d8382, RowsF R_KeyD cl10614 x10612, LvF] a w ∧ law32_DequeOnce_j8 g8381 x10612 have10626 next10630 = some f1) ?_ ?_
                    · skip
                      refine wp_seq_k fun K829 hK829 => ?_
                      refine r_list ?_
                      refine wl rfl (ky (v := .int .i64 e10611) hS (y_move hS rfl) rfl rfl fun a hS => ?_)
                      refine wl rfl (ky (v := .bool ((e10611 : Int) == 0)) hS (y_int hS rfl rfl rfl) rfl rfl fun a hS => ?_)
                      refine wpList_nil ?_
                      try simp only [Exit.then, Exit.inBlock, ↓reduceIte, Nat.reduceEqDiff]
                      refine hK829 _ _ ?_
                      rcases bool2 ((e10611 : Int) == 0) with hb10631 | hb10631
                      · replace hM := ct hb10631 hM
                        refine c_t hS rfl hb10631 ?_
                        refine wp_seq_k fun K830 hK830 => ?_
                        refine r_list ?_
                        refine wl rfl (ky (v := v8377) hS (y_move hS rfl) rfl rfl fun a hS => ?_)
                        refine wl rfl (ky (v := .int .i64 next8380) hS (y_move hS rfl) rfl rfl fun a hS => ?_)
                        refine wl rfl (ky (v := .int .i64 (Int.tmod next8380 100)) hS (y_rem hS rfl rfl (by decide)) rfl rfl fun a hS => ?_)
                        obtain ⟨u10632, hu10632, hM⟩ := bd hM
                        refine wl rfl (k_call hS ci16 rfl rfl (ref23_Cell_c _ _ hS.dlt (hS.get 4 rfl) (Int.tmod next8380 100) _ hu10632) fun _ w hR a hk hA => ?_)
                        have he := Eq.symm hR
                        subst he
                        have hS := hA [] (fun r hr => by cases hr) List.Pairwise.nil
                        refine wl rfl (k_bslice (ps := [(0, .tmp 47)]) hS el24 ze28 (zl := [.int .i64 0, .string (ByteArray.mk #[])]) (by kernel_rfl) rfl (us := [[.int .i64 u10632.Kind, .string u10632.Text]]) ⟨rfl, trivial⟩ (ws := [.int .i64 u10632.Kind, .string u10632.Text]) rfl rfl rfl rfl fun b10634 a w hk hS => ?_)
                        replace hS := hS.lit (R := R_KeyD) (us := [.int .i64 u10632.Kind, .string u10632.Text]) (xs := [u10632]) 0 rfl (by decide) (RowsOk.one_ (R := R_KeyD) (x := u10632) rfl) rfl rfl
                        replace hS := hS.freeze (R := R_KeyD) 0 rfl 0 rfl
                        obtain ⟨hg10636, hM⟩ := gd_some hM
                        refine wl rfl (k_apps (R := R_KeyD) (xs := have8376) (ys := [u10632]) hS el24 (by decide) (by decide) rfl rfl 0 rfl 2 rfl 0 rfl hg10636 rfl fun v10637 cl10638 a w hk hS => ?_)
                        refine wl rfl (ky (v := v10637) hS (y_assign hS rfl) rfl rfl fun a hS => ?_)
                        refine wpList_nil ?_
                        try simp only [Exit.then, Exit.inBlock, ↓reduceIte, Nat.reduceEqDiff]
                        refine hK830 _ _ ?_
                        refine r_list ?_
                        refine wl rfl (ky (v := .int .i64 next8380) hS (y_move hS rfl) rfl rfl fun a hS => ?_)
                        refine wl rfl (ky (v := .int .i64 (IntKind.i64.wrap (next8380 + 1))) hS (y_int hS rfl rfl rfl) rfl rfl fun a hS => ?_)
                        refine wl rfl (ky (v := .int .i64 (IntKind.i64.wrap (next8380 + 1))) hS (y_assign hS rfl) rfl rfl fun a hS => ?_)
                        refine wpList_nil ?_
                        try simp only [Exit.then, Exit.inBlock, ↓reduceIte, Nat.reduceEqDiff]
                        exact ⟨(have8376 ++ ([u10632])), (IntKind.i64.wrap (next8380 + 1)), v10637, cl10638, (hS.meet [0, 1, 2, 3, 4] (by decide) ⟨rfl, rfl, rfl, rfl, rfl, rfl, rfl, trivial⟩ ⟨rfl, rfl, rfl, rfl, rfl, trivial⟩ ⟨⟨0, rfl⟩, ⟨4, rfl⟩, ⟨5, rfl⟩, ⟨6, rfl⟩, ⟨7, rfl⟩, trivial⟩), hM⟩
                      · replace hM := cf hb10631 hM
                        refine c_f hS rfl hb10631 ?_
                        refine wp_skip ?_
                        try simp only [Exit.then, Exit.inBlock, ↓reduceIte, Nat.reduceEqDiff]
                        exact ⟨have8376, next8380, v8377, cl8378, (hS.meet [0, 1, 2, 3, 4] (by decide) ⟨rfl, rfl, rfl, rfl, rfl, rfl, rfl, trivial⟩ ⟨rfl, rfl, rfl, rfl, rfl, trivial⟩ ⟨⟨0, rfl⟩, ⟨1, rfl⟩, ⟨2, rfl⟩, ⟨3, rfl⟩, ⟨4, rfl⟩, trivial⟩), hM⟩
                    · rintro a w ⟨have10626, next10630, v10627, cl10628, hS, hM⟩
                      unfold law32_DequeOnce_j8 at hM
                      refine r_list ?_
                      refine wl rfl (ky (v := .agg #[v10613]) hS (y_load hS rfl ty26 4 rfl id (us := [v10613]) rfl rfl (fun h => by cases h)) rfl rfl fun a hS => ?_)
                      refine wl rfl (k_store hS rfl rfl (us := [v10613]) rfl ty26 2 rfl rfl rfl (oc (own_one (hS.own _ (List.mem_of_getElem? (i := 3) rfl)).1) on) fun w hk hS => ?_)
                      refine wpList_nil ?_
                      try simp only [Exit.then, Exit.inBlock, ↓reduceIte, Nat.reduceEqDiff]
                      exact ⟨have10626, next10630, x10612, v10627, cl10628, v10613, cl10614, (hS.meet [0, 3, 2] (by decide) ⟨rfl, rfl, rfl, rfl, rfl, rfl, trivial⟩ ⟨rfl, rfl, rfl, trivial⟩ ⟨⟨0, rfl⟩, ⟨1, rfl⟩, ⟨3, rfl⟩, ⟨4, rfl⟩, trivial⟩), hM⟩
          · rintro a w ⟨have10373, next10377, d10378, v10374, cl10375, v10379, cl10380, hS, hM⟩
            unfold law32_DequeOnce_j3 at hM
            refine wp_seq_k fun K808 hK808 => ?_
            refine r_list ?_
            refine wl rfl (ky (v := .pointer (some ⟨b4773, 0 + 0, none⟩)) hS (y_fld hS rfl fl26_0) rfl rfl fun a hS => ?_)
            refine wl rfl (ky (v := v10379) hS (y_load hS rfl ty24 2 rfl id (us := [v10379]) rfl rfl (fun _ => rfl)) rfl rfl fun a hS => ?_)
            refine wl rfl (ky (v := .int .i64 (d10378.length : Int)) hS (y_leno (R := R_KeyD) (xs := d10378) hS sl24 rfl 1 rfl 2 rfl) rfl rfl fun a hS => ?_)
            refine wl rfl (ky (v := v10374) hS (y_move hS rfl) rfl rfl fun a hS => ?_)
            refine wl rfl (ky (v := .int .i64 (have10373.length : Int)) hS (y_leno (R := R_KeyD) (xs := have10373) hS sl24 rfl 0 rfl 0 rfl) rfl rfl fun a hS => ?_)
            refine wl rfl (ky (v := .bool (((d10378.length : Int) : Int) != (have10373.length : Int))) hS (y_int hS rfl rfl rfl) rfl rfl fun a hS => ?_)
            refine wl rfl (ky (v := .bool (((d10378.length : Int) : Int) != (have10373.length : Int))) hS (y_move hS rfl) rfl rfl fun a hS => ?_)
            rcases bool2 (((d10378.length : Int) : Int) != (have10373.length : Int)) with hb10385 | hb10385
            · replace hM := ct hb10385 hM
              refine wn hS rfl rfl rfl hb10385 rfl rfl fun a hS => ?_
              refine wn hS rfl rfl rfl hb10385 rfl rfl fun a hS => ?_
              refine wn hS rfl rfl rfl hb10385 rfl rfl fun a hS => ?_
              refine wl rfl (ky (v := .bool true) hS (y_pickt hS rfl hb10385 rfl) rfl rfl fun a hS => ?_)
              refine wpList_nil ?_
              try simp only [Exit.then, Exit.inBlock, ↓reduceIte, Nat.reduceEqDiff]
              refine hK808 _ _ ?_
              refine c_t hS rfl rfl ?_
              refine wp_seq_k fun K809 hK809 => ?_
              refine r_list ?_
              refine wl rfl (ky (v := .bool false) hS (y_assign hS rfl) rfl rfl fun a hS => ?_)
              refine wpList_nil ?_
              try simp only [Exit.then, Exit.inBlock, ↓reduceIte, Nat.reduceEqDiff]
              refine hK809 _ _ ?_
              refine wp_ret ?_
              injection hM with hM
              subst hM
              have hr := hf1 _ rfl
              subst hr
              replace hMo1 := el_out hMo1
              have hM := hMo1
              injection hM with hM
              subst hM
              try simp only [Exit.then, Exit.inBlock, ↓reduceIte, Nat.reduceEqDiff]
              refine ret_ok hS Tryd.results3 (res_tmp hS rfl res_nil) ?_
              exact rfl
            · replace hM := cf hb10385 hM
              refine wg hS rfl rfl rfl hb10385 (ky (v := .agg #[v10379]) hS (y_load hS rfl ty26 2 rfl id (us := [v10379]) rfl rfl (fun h => by cases h)) rfl rfl fun a hS => ?_)
              have hL := hS
              replace hL := hL.freeze (R := R_KeyD) 1 rfl 2 rfl
              obtain ⟨u10386, hu10386, hM⟩ := bd hM
              refine wg hS rfl rfl rfl hb10385 (k_call hS ci17 rfl rfl (deque_Valid_c _ _ hL.dlt (hL.get 4 rfl) (DequeD.mk d10378) _ (hL.get 0 rfl) _ hu10386) fun _ w hR a hk hA => ?_)
              have he := Eq.symm hR
              subst he
              have hS := hA [] (fun r hr => by cases hr) List.Pairwise.nil
              refine wg hS rfl rfl rfl hb10385 (ky (v := .bool (!(u10386))) hS (y_not hS rfl) rfl rfl fun a hS => ?_)
              refine wl rfl (ky (v := .bool (!(u10386))) hS (y_pickf hS rfl hb10385 rfl) rfl rfl fun a hS => ?_)
              refine wpList_nil ?_
              try simp only [Exit.then, Exit.inBlock, ↓reduceIte, Nat.reduceEqDiff]
              refine hK808 _ _ ?_
              rcases bool2 (!(u10386)) with hb10388 | hb10388
              · replace hM := ct hb10388 hM
                refine c_t hS rfl hb10388 ?_
                refine wp_seq_k fun K810 hK810 => ?_
                refine r_list ?_
                refine wl rfl (ky (v := .bool false) hS (y_assign hS rfl) rfl rfl fun a hS => ?_)
                refine wpList_nil ?_
                try simp only [Exit.then, Exit.inBlock, ↓reduceIte, Nat.reduceEqDiff]
                refine hK810 _ _ ?_
                refine wp_ret ?_
                injection hM with hM
                subst hM
                have hr := hf1 _ rfl
                subst hr
                replace hMo1 := el_out hMo1
                have hM := hMo1
                injection hM with hM
                subst hM
                try simp only [Exit.then, Exit.inBlock, ↓reduceIte, Nat.reduceEqDiff]
                refine ret_ok hS Tryd.results3 (res_tmp hS rfl res_nil) ?_
                exact rfl
              · replace hM := cf hb10388 hM
                refine c_f hS rfl hb10388 ?_
                refine wp_skip ?_
                try simp only [Exit.then, Exit.inBlock, ↓reduceIte, Nat.reduceEqDiff]
                exact ⟨have10373, next10377, d10378, v10374, cl10375, v10379, cl10380, (hS.meet [0, 1, 2] (by decide) ⟨rfl, rfl, rfl, rfl, rfl, rfl, trivial⟩ ⟨rfl, rfl, rfl, trivial⟩ ⟨⟨0, rfl⟩, ⟨1, rfl⟩, ⟨2, rfl⟩, ⟨3, rfl⟩, trivial⟩), hM⟩
        · rintro a w ⟨have10089, next10093, d10094, v10090, cl10091, v10095, cl10096, hS, hM⟩
          unfold law32_DequeOnce_j2 at hM
          refine r_list ?_
          refine wl rfl (ky (v := .int .i64 (IntKind.i64.wrap (g8381 + 1))) hS (y_int hS rfl rfl rfl) rfl rfl fun a hS => ?_)
          refine wl rfl (ky (v := .int .i64 (IntKind.i64.wrap (g8381 + 1))) hS (y_move hS rfl) rfl rfl fun a hS => ?_)
          refine wpList_nil ?_
          try simp only [Exit.then, Exit.inBlock, ↓reduceIte, Nat.reduceEqDiff]
          exact ⟨(have10089, next10093, IntKind.i64.wrap (g8381 + 1), d10094), (Option.some.inj hM).symm, have10089, next10093, (IntKind.i64.wrap (g8381 + 1)), d10094, v10090, cl10091, v10095, cl10096, rfl, (hS.meet [0, 1, 2] (by decide) ⟨rfl, rfl, rfl, rfl, rfl, rfl, trivial⟩ ⟨rfl, rfl, rfl, trivial⟩ ⟨⟨0, rfl⟩, ⟨1, rfl⟩, ⟨2, rfl⟩, ⟨3, rfl⟩, trivial⟩)⟩
      · replace hM := cf hb9528 hM
        refine c_f hS rfl hb9528 ?_
        refine wp_exit ?_
        try simp only [Exit.then, Exit.inBlock, ↓reduceIte, Nat.reduceEqDiff]
        injection hM with hM
        subst hM
        have hr := hf1 _ rfl
        subst hr
        replace hMo1 := el_go hMo1
        have hM : law32_DequeOnce_j1 = some y := hMo1
        exact ⟨(hS.meet [] (by decide) trivial trivial ⟨⟨3, rfl⟩, trivial⟩), hM⟩
    · rintro a w ⟨hS, hM⟩
      unfold law32_DequeOnce_j1 at hM
      refine wp_seq_k fun K559 hK559 => ?_
      refine r_list ?_
      obtain ⟨u7150, hu7150, hM⟩ := bd hM
      refine wl rfl (k_call hS ci12 rfl rfl (law32_awake_c _ _ hS.dlt (hS.get 0 rfl) _ hu7150) fun _ w hR a hk hA => ?_)
      have he := Eq.symm hR
      subst he
      have hS := hA [] (fun r hr => by cases hr) List.Pairwise.nil
      refine wl rfl (ky (v := .bool u7150) hS (y_assign hS rfl) rfl rfl fun a hS => ?_)
      refine wpList_nil ?_
      try simp only [Exit.then, Exit.inBlock, ↓reduceIte, Nat.reduceEqDiff]
      refine hK559 _ _ ?_
      refine wp_ret ?_
      injection hM with hM
      subst hM
      try simp only [Exit.then, Exit.inBlock, ↓reduceIte, Nat.reduceEqDiff]
      refine ret_ok hS Tryd.results3 (res_tmp hS rfl res_nil) ?_
      exact rfl
end Go.Proofs.YtappkgmbdoiocaaDoor
