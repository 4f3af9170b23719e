/- What functions of the program compute; that they do. -/
import Derived.Test.YtjoilbmkcknnfaaDoorMT
import Derived.Test.YtjoilbmkcknnfaaDoorD1
import Derived.Test.YtjoilbmkcknnfaaDoorE1
set_option linter.unusedVariables false
set_option linter.unusedSimpArgs false
namespace Go.Proofs.YtjoilbmkcknnfaaDoor
open Go.RowKit
noncomputable def ref23_SameList_j1 : Option Bool := some (true)
noncomputable def ref23_SameList_l2 (a_0 : (List KeyD)) (b_1 : (List KeyD)) (g214 : Int) : Option (Fl (Int) (Fl (Unit) Bool)) := cond (decide ((g214 : Int) < (a_0.length : Int))) ((getI a_0 g214).bind fun e256 => (getI b_1 g214).bind fun e286 => cond (!((e286.Kind : Int) == e256.Kind && e286.Text.toList == e256.Text.toList)) (some (.out (.out false))) (some (.go (IntKind.i64.wrap (g214 + 1))))) (some (.out (.go ())))
noncomputable def ref23_SameList (a_0 : (List KeyD)) (b_1 : (List KeyD)) : Option Bool := cond (((a_0.length : Int) : Int) != (b_1.length : Int)) (some (false)) ((loop (fun s : Int => ref23_SameList_l2 a_0 b_1 s) 0).bind fun r => Fl.el r (fun s => ref23_SameList_j1) (fun y => some (y)))
set_option maxRecDepth 100000 in
set_option maxHeartbeats 4000000 in
theorem ref23_SameList_c (T : Nat → Prop) (W0 : World) (hT : ∀ k, T k → k < W0.heap.size) (a_0 : (List KeyD)) (b_1 : (List KeyD)) (v1 : Value) (v2 : Value) (hv1 : SlR R_KeyD T W0 v1 a_0) (hv2 : SlR R_KeyD T W0 v2 b_1) (y : Bool) (hM : ref23_SameList a_0 b_1 = some y) : Rets Tryd.prog No 53 [v1, v2] W0 (fun v w' => v = .bool y) := by
  refine enter (c := _) Tryd.func53 rfl T 26 Tryd.ntmps53 hT rfl fun a hS => ?_
  replace hS := hS.fact (SlF R_KeyD v1 a_0) (SlR.dn hv1)
  replace hS := hS.fact (SlF R_KeyD v2 b_1) (SlR.dn hv2)
  unfold ref23_SameList at hM
  refine wp_seq_k fun K20 hK20 => ?_
  refine r_list ?_
  refine wl rfl (ky (v := .bool false) hS (y_assign hS rfl) rfl rfl fun a hS => ?_)
  refine wpList_nil ?_
  try simp only [Exit.then, Exit.inBlock, ↓reduceIte, Nat.reduceEqDiff]
  refine hK20 _ _ ?_
  refine wp_seq_k fun K21 hK21 => ?_
  refine wp_seq_k fun K22 hK22 => ?_
  refine r_list ?_
  refine wl rfl (ky (v := v1) hS (y_move hS rfl) rfl rfl fun a hS => ?_)
  refine wl rfl (ky (v := .int .i64 (a_0.length : Int)) hS (y_len (R := R_KeyD) (xs := a_0) hS sl22 rfl 1 rfl) rfl rfl fun a hS => ?_)
  refine wl rfl (ky (v := v2) hS (y_move hS rfl) rfl rfl fun a hS => ?_)
  refine wl rfl (ky (v := .int .i64 (b_1.length : Int)) hS (y_len (R := R_KeyD) (xs := b_1) hS sl22 rfl 0 rfl) rfl rfl fun a hS => ?_)
  refine wl rfl (ky (v := .bool (((a_0.length : Int) : Int) != (b_1.length : Int))) hS (y_int hS rfl rfl rfl) rfl rfl fun a hS => ?_)
  refine wpList_nil ?_
  try simp only [Exit.then, Exit.inBlock, ↓reduceIte, Nat.reduceEqDiff]
  refine hK22 _ _ ?_
  rcases bool2 (((a_0.length : Int) : Int) != (b_1.length : Int)) with hb92 | hb92
  · replace hM := ct hb92 hM
    refine c_t hS rfl hb92 ?_
    refine wp_seq_k fun K23 hK23 => ?_
    refine r_list ?_
    refine wl rfl (ky (v := .bool false) hS (y_assign hS rfl) rfl rfl fun a hS => ?_)
    refine wpList_nil ?_
    try simp only [Exit.then, Exit.inBlock, ↓reduceIte, Nat.reduceEqDiff]
    refine hK23 _ _ ?_
    refine wp_ret ?_
    injection hM with hM
    subst hM
    try simp only [Exit.then, Exit.inBlock, ↓reduceIte, Nat.reduceEqDiff]
    refine ret_ok hS Tryd.results53 (res_tmp hS rfl res_nil) ?_
    exact rfl
  · replace hM := cf hb92 hM
    refine c_f hS rfl hb92 ?_
    refine wp_skip ?_
    try simp only [Exit.then, Exit.inBlock, ↓reduceIte, Nat.reduceEqDiff]
    refine hK21 _ _ ?_
    refine seq_j (J := fun a w => St W0 No T 26 [] [] [] a w ∧ ref23_SameList_j1 = some y) ?_ ?_
    · skip
      refine wp_seq_k fun K38 hK38 => ?_
      refine r_list ?_
      refine wl rfl (ky (v := v1) hS (y_move hS rfl) rfl rfl fun a hS => ?_)
      refine wl rfl (ky (v := .int .i64 (a_0.length : Int)) hS (y_len (R := R_KeyD) (xs := a_0) hS sl22 rfl 1 rfl) rfl rfl fun a hS => ?_)
      refine wl rfl (ky (v := .int .i64 0) hS (y_move hS rfl) rfl rfl fun a hS => ?_)
      refine wpList_nil ?_
      try simp only [Exit.then, Exit.inBlock, ↓reduceIte, Nat.reduceEqDiff]
      refine hK38 _ _ ?_
      refine wp_block ?_
      obtain ⟨r1, hl1, hMo1⟩ := bd hM
      refine wp_lp (fun s : Int => ref23_SameList_l2 a_0 b_1 s) (fun s a w => ∃ (g214 : Int), g214 = s ∧ St W0 No T 26 [(1, v2), (12, v1), (13, .int .i64 (a_0.length : Int)), (14, .int .i64 g214)] [] [SlF R_KeyD v2 b_1, SlF R_KeyD v1 a_0] a w) hl1 ⟨0, rfl, (hS.meet [] (by decide) ⟨rfl, rfl, rfl, rfl, trivial⟩ trivial ⟨⟨0, rfl⟩, ⟨1, rfl⟩, trivial⟩)⟩ ?_
      rintro s a w f1 ⟨g214, rfl, hS⟩ hM hf1
      have hM : ref23_SameList_l2 a_0 b_1 g214 = some f1 := hM
      unfold ref23_SameList_l2 at hM
      refine wp_seq_k fun K51 hK51 => ?_
      refine r_list ?_
      refine wl rfl (ky (v := .bool (decide ((g214 : Int) < (a_0.length : Int)))) hS (y_int hS rfl rfl rfl) rfl rfl fun a hS => ?_)
      refine wpList_nil ?_
      try simp only [Exit.then, Exit.inBlock, ↓reduceIte, Nat.reduceEqDiff]
      refine hK51 _ _ ?_
      refine wp_seq_k fun K52 hK52 => ?_
      rcases bool2 (decide ((g214 : Int) < (a_0.length : Int))) with hb255 | hb255
      · replace hM := ct hb255 hM
        refine c_t hS rfl hb255 ?_
        refine wp_skip ?_
        try simp only [Exit.then, Exit.inBlock, ↓reduceIte, Nat.reduceEqDiff]
        refine hK52 _ _ ?_
        refine wp_seq_k fun K53 hK53 => ?_
        refine wp_block ?_
        refine wp_seq_k fun K54 hK54 => ?_
        refine r_list ?_
        refine wl rfl (ky (v := .int .i64 g214) hS (y_move hS rfl) rfl rfl fun a hS => ?_)
        obtain ⟨e256, he256, hM⟩ := bd hM
        refine wl rfl (k_index (R := R_KeyD) hS sl22 ty28 rfl rfl 1 rfl he256 rfl fun b257 o258 cs260 hr259 a hS => ?_)
        obtain rfl := hr259
        refine wl rfl (ky (v := .agg #[.int .i64 e256.Kind, .string e256.Text]) hS (y_loadc (k := 0) hS ty28 0 rfl rfl (fun _ h => h.elim) (us := [.int .i64 e256.Kind, .string e256.Text]) rfl rfl (fun h => by cases h)) rfl rfl fun a hS => ?_)
        refine wl rfl (k_alloc hS ze28 rfl fun b262 hnb264 a w hk hS => ?_)
        refine wl rfl (ky (v := .int .i64 g214) hS (y_assign hS rfl) rfl rfl fun a hS => ?_)
        refine wl rfl (k_store hS rfl rfl (us := [.int .i64 e256.Kind, .string e256.Text]) rfl ty28 0 rfl rfl rfl (oc rfl (oc rfl on)) fun w hk hS => ?_)
        refine wpList_nil ?_
        try simp only [Exit.then, Exit.inBlock, ↓reduceIte, Nat.reduceEqDiff]
        refine hK54 _ _ ?_
        refine wp_seq_k fun K55 hK55 => ?_
        refine draws [] hS mixed rfl (fun c a d v w h => by cases d <;> exact h) fun w hQ hS => ?_
        refine dy 0 (v := v2) rfl (by kernel_rfl) (by kernel_rfl) (by kernel_rfl) rfl hQ hS (y_move hS rfl) rfl rfl rfl fun a hS => ?_
        refine dy 1 (v := .int .i64 g214) rfl (by kernel_rfl) (by kernel_rfl) (by kernel_rfl) rfl hQ hS (y_move hS rfl) rfl rfl rfl fun a hS => ?_
        obtain ⟨e286, he286, hM⟩ := bd hM
        obtain ⟨b287, o288, cs290, hr289, hy292, hS⟩ := d_index (R := R_KeyD) hS sl22 ty28 1 rfl he286
        obtain rfl := hr289
        refine dy 2 (v := .pointer (some ⟨b287, o288, none⟩)) rfl (by kernel_rfl) (by kernel_rfl) (by kernel_rfl) rfl hQ hS (hy292 rfl rfl) rfl rfl rfl fun a hS => ?_
        refine dy (l := []) 3 (v := .agg #[.int .i64 e286.Kind, .string e286.Text]) rfl (by kernel_rfl) (by kernel_rfl) (by kernel_rfl) (by kernel_rfl) hQ hS (y_loadc (k := 0) hS ty28 0 rfl rfl es_nil (us := [.int .i64 e286.Kind, .string e286.Text]) rfl rfl (fun h => by cases h)) rfl rfl rfl fun a hS => ?_
        refine dy (l := []) 4 (v := .agg #[.int .i64 e256.Kind, .string e256.Text]) rfl (by kernel_rfl) (by kernel_rfl) (by kernel_rfl) (by kernel_rfl) hQ hS (y_load hS rfl ty28 0 rfl eo_nil (us := [.int .i64 e256.Kind, .string e256.Text]) rfl rfl (fun h => by cases h)) rfl rfl rfl fun a hS => ?_
        refine dy 5 (v := .bool (!((e286.Kind : Int) == e256.Kind && e286.Text.toList == e256.Text.toList))) rfl (by kernel_rfl) (by kernel_rfl) (by kernel_rfl) rfl hQ hS (eq28n hS rfl rfl) rfl rfl rfl fun a hS => ?_
        refine wpE_done (by kernel_rfl) ?_ _
        try simp only [Exit.then, Exit.inBlock, ↓reduceIte, Nat.reduceEqDiff]
        refine hK55 _ _ ?_
        rcases bool2 (!((e286.Kind : Int) == e256.Kind && e286.Text.toList == e256.Text.toList)) with hb293 | hb293
        · replace hM := ct hb293 hM
          refine c_t hS rfl hb293 ?_
          refine wp_seq_k fun K56 hK56 => ?_
          refine r_list ?_
          refine wl rfl (ky (v := .bool false) hS (y_assign hS rfl) rfl rfl fun a hS => ?_)
          refine wpList_nil ?_
          try simp only [Exit.then, Exit.inBlock, ↓reduceIte, Nat.reduceEqDiff]
          refine hK56 _ _ ?_
          refine wp_ret ?_
          injection hM with hM
          subst hM
          have hr := hf1 _ rfl
          subst hr
          replace hMo1 := el_out hMo1
          have hM := hMo1
          injection hM with hM
          subst hM
          try simp only [Exit.then, Exit.inBlock, ↓reduceIte, Nat.reduceEqDiff]
          refine ret_ok hS Tryd.results53 (res_tmp hS rfl res_nil) ?_
          exact rfl
        · replace hM := cf hb293 hM
          refine c_f hS rfl hb293 ?_
          refine wp_skip ?_
          try simp only [Exit.then, Exit.inBlock, ↓reduceIte, Nat.reduceEqDiff]
          refine hK53 _ _ ?_
          refine r_list ?_
          refine wl rfl (ky (v := .int .i64 (IntKind.i64.wrap (g214 + 1))) hS (y_int hS rfl rfl rfl) rfl rfl fun a hS => ?_)
          refine wl rfl (ky (v := .int .i64 (IntKind.i64.wrap (g214 + 1))) hS (y_move hS rfl) rfl rfl fun a hS => ?_)
          refine wpList_nil ?_
          try simp only [Exit.then, Exit.inBlock, ↓reduceIte, Nat.reduceEqDiff]
          exact ⟨IntKind.i64.wrap (g214 + 1), (Option.some.inj hM).symm, (IntKind.i64.wrap (g214 + 1)), rfl, (hS.meet [] (by decide) ⟨rfl, rfl, rfl, rfl, trivial⟩ trivial ⟨⟨2, rfl⟩, ⟨3, rfl⟩, trivial⟩)⟩
      · replace hM := cf hb255 hM
        refine c_f hS rfl hb255 ?_
        refine wp_exit ?_
        try simp only [Exit.then, Exit.inBlock, ↓reduceIte, Nat.reduceEqDiff]
        injection hM with hM
        subst hM
        have hr := hf1 _ rfl
        subst hr
        replace hMo1 := el_go hMo1
        have hM : ref23_SameList_j1 = some y := hMo1
        exact ⟨(hS.meet [] (by decide) trivial trivial trivial), hM⟩
    · rintro a w ⟨hS, hM⟩
      unfold ref23_SameList_j1 at hM
      refine wp_seq_k fun K37 hK37 => ?_
      refine r_list ?_
      refine wl rfl (ky (v := .bool true) hS (y_assign hS rfl) rfl rfl fun a hS => ?_)
      refine wpList_nil ?_
      try simp only [Exit.then, Exit.inBlock, ↓reduceIte, Nat.reduceEqDiff]
      refine hK37 _ _ ?_
      refine wp_ret ?_
      injection hM with hM
      subst hM
      try simp only [Exit.then, Exit.inBlock, ↓reduceIte, Nat.reduceEqDiff]
      refine ret_ok hS Tryd.results53 (res_tmp hS rfl res_nil) ?_
      exact rfl

noncomputable def ref26_SameOne_j1 (g54 : Bool) : Option Bool := some (g54)
noncomputable def ref26_SameOne (a_0 : RecordD) (b_1 : RecordD) : Option Bool := cond ((a_0.Key.Kind : Int) == b_1.Key.Kind && a_0.Key.Text.toList == b_1.Key.Text.toList) (cond (a_0.Value.toList == b_1.Value.toList) ((ref23_SameList a_0.Reads b_1.Reads).bind fun u57 => cond u57 (cond ((a_0.Changed : Int) == b_1.Changed) (cond ((a_0.Verified : Int) == b_1.Verified) (cond ((a_0.Cost : Int) == b_1.Cost) (ref26_SameOne_j1 (a_0.Dirty == b_1.Dirty)) (ref26_SameOne_j1 false)) (ref26_SameOne_j1 false)) (ref26_SameOne_j1 false)) (ref26_SameOne_j1 false)) (ref26_SameOne_j1 false)) (ref26_SameOne_j1 false)
set_option maxRecDepth 100000 in
set_option maxHeartbeats 4000000 in
theorem ref26_SameOne_c (T : Nat → Prop) (W0 : World) (hT : ∀ k, T k → k < W0.heap.size) (a_0 : RecordD) (b_1 : RecordD) (v1 : Value) (v2 : Value) (hv1 : SlR R_KeyD T W0 v1 a_0.Reads) (hv2 : SlR R_KeyD T W0 v2 b_1.Reads) (y : Bool) (hM : ref26_SameOne a_0 b_1 = some y) : Rets Tryd.prog No 45 [.agg #[.int .i64 a_0.Key.Kind, .string a_0.Key.Text, .string a_0.Value, v1, .int .i64 a_0.Changed, .int .i64 a_0.Verified, .int .i64 a_0.Cost, .bool a_0.Dirty], .agg #[.int .i64 b_1.Key.Kind, .string b_1.Key.Text, .string b_1.Value, v2, .int .i64 b_1.Changed, .int .i64 b_1.Verified, .int .i64 b_1.Cost, .bool b_1.Dirty]] W0 (fun v w' => v = .bool y) := by
  refine enter (c := _) Tryd.func45 rfl T 52 Tryd.ntmps45 hT rfl fun a hS => ?_
  replace hS := hS.fact (SlF R_KeyD v1 a_0.Reads) (SlR.dn hv1)
  replace hS := hS.fact (SlF R_KeyD v2 b_1.Reads) (SlR.dn hv2)
  unfold ref26_SameOne at hM
  refine wp_seq_k fun K2 hK2 => ?_
  refine r_list ?_
  refine wl rfl (k_box hS rfl (cs := [.int .i64 a_0.Key.Kind, .string a_0.Key.Text, .string a_0.Value, v1, .int .i64 a_0.Changed, .int .i64 a_0.Verified, .int .i64 a_0.Cost, .bool a_0.Dirty]) rfl rfl fun b32 hnb34 a w hk hS => ?_)
  refine wl rfl (k_box hS rfl (cs := [.int .i64 b_1.Key.Kind, .string b_1.Key.Text, .string b_1.Value, v2, .int .i64 b_1.Changed, .int .i64 b_1.Verified, .int .i64 b_1.Cost, .bool b_1.Dirty]) rfl rfl fun b35 hnb37 a w hk hS => ?_)
  refine wl rfl (ky (v := .bool false) hS (y_assign hS rfl) rfl rfl fun a hS => ?_)
  refine wpList_nil ?_
  try simp only [Exit.then, Exit.inBlock, ↓reduceIte, Nat.reduceEqDiff]
  refine hK2 _ _ ?_
  refine seq_j (J := fun a w => ∃ (g54 : Bool), St W0 No T 52 [(4, .bool g54)] [] [] a w ∧ ref26_SameOne_j1 g54 = some y) ?_ ?_
  · skip
    refine r_list ?_
    refine wl rfl (ky (v := .pointer (some ⟨b32, 0 + 0, none⟩)) hS (y_fld hS rfl fl54_0) rfl rfl fun a hS => ?_)
    refine wl rfl (ky (v := .agg #[.int .i64 a_0.Key.Kind, .string a_0.Key.Text]) hS (y_load hS rfl ty28 1 rfl id (us := [.int .i64 a_0.Key.Kind, .string a_0.Key.Text]) rfl rfl (fun h => by cases h)) rfl rfl fun a hS => ?_)
    refine wl rfl (ky (v := .pointer (some ⟨b35, 0 + 0, none⟩)) hS (y_fld hS rfl fl54_0) rfl rfl fun a hS => ?_)
    refine wl rfl (ky (v := .agg #[.int .i64 b_1.Key.Kind, .string b_1.Key.Text]) hS (y_load hS rfl ty28 0 rfl id (us := [.int .i64 b_1.Key.Kind, .string b_1.Key.Text]) rfl rfl (fun h => by cases h)) rfl rfl fun a hS => ?_)
    refine wl rfl (ky (v := .bool ((a_0.Key.Kind : Int) == b_1.Key.Kind && a_0.Key.Text.toList == b_1.Key.Text.toList)) hS (eq28 hS rfl rfl) rfl rfl fun a hS => ?_)
    refine wl rfl (ky (v := .bool ((a_0.Key.Kind : Int) == b_1.Key.Kind && a_0.Key.Text.toList == b_1.Key.Text.toList)) hS (y_move hS rfl) rfl rfl fun a hS => ?_)
    rcases bool2 ((a_0.Key.Kind : Int) == b_1.Key.Kind && a_0.Key.Text.toList == b_1.Key.Text.toList) with hb55 | hb55
    · replace hM := ct hb55 hM
      refine wg hS rfl rfl rfl hb55 (ky (v := .pointer (some ⟨b32, 0 + 2, none⟩)) hS (y_fld hS rfl fl54_1) rfl rfl fun a hS => ?_)
      refine wg hS rfl rfl rfl hb55 (ky (v := .string a_0.Value) hS (y_load hS rfl ty9 1 rfl id (us := [.string a_0.Value]) rfl rfl (fun _ => rfl)) rfl rfl fun a hS => ?_)
      refine wg hS rfl rfl rfl hb55 (ky (v := .pointer (some ⟨b35, 0 + 2, none⟩)) hS (y_fld hS rfl fl54_1) rfl rfl fun a hS => ?_)
      refine wg hS rfl rfl rfl hb55 (ky (v := .string b_1.Value) hS (y_load hS rfl ty9 0 rfl id (us := [.string b_1.Value]) rfl rfl (fun _ => rfl)) rfl rfl fun a hS => ?_)
      refine wg hS rfl rfl rfl hb55 (ky (v := .bool (a_0.Value.toList == b_1.Value.toList)) hS (y_str hS rfl rfl rfl) rfl rfl fun a hS => ?_)
      refine wl rfl (ky (v := .bool (a_0.Value.toList == b_1.Value.toList)) hS (y_pickt hS rfl hb55 rfl) rfl rfl fun a hS => ?_)
      refine wl rfl (ky (v := .bool (a_0.Value.toList == b_1.Value.toList)) hS (y_move hS rfl) rfl rfl fun a hS => ?_)
      rcases bool2 (a_0.Value.toList == b_1.Value.toList) with hb56 | hb56
      · replace hM := ct hb56 hM
        refine wg hS rfl rfl rfl hb56 (ky (v := .pointer (some ⟨b32, 0 + 3, none⟩)) hS (y_fld hS rfl fl54_2) rfl rfl fun a hS => ?_)
        refine wg hS rfl rfl rfl hb56 (ky (v := v1) hS (y_load hS rfl ty22 1 rfl id (us := [v1]) rfl rfl (fun _ => rfl)) rfl rfl fun a hS => ?_)
        refine wg hS rfl rfl rfl hb56 (ky (v := .pointer (some ⟨b35, 0 + 3, none⟩)) hS (y_fld hS rfl fl54_2) rfl rfl fun a hS => ?_)
        refine wg hS rfl rfl rfl hb56 (ky (v := v2) hS (y_load hS rfl ty22 0 rfl id (us := [v2]) rfl rfl (fun _ => rfl)) rfl rfl fun a hS => ?_)
        obtain ⟨u57, hu57, hM⟩ := bd hM
        refine wg hS rfl rfl rfl hb56 (k_call hS ci53 rfl rfl (ref23_SameList_c _ _ hS.dlt a_0.Reads b_1.Reads _ _ (hS.get 1 rfl) (hS.get 0 rfl) _ hu57) fun _ w hR a hk hA => ?_)
        have he := Eq.symm hR
        subst he
        have hS := hA [] (fun r hr => by cases hr) List.Pairwise.nil
        refine wl rfl (ky (v := .bool u57) hS (y_pickt hS rfl hb56 rfl) rfl rfl fun a hS => ?_)
        refine wl rfl (ky (v := .bool u57) hS (y_move hS rfl) rfl rfl fun a hS => ?_)
        rcases bool2 (u57) with hb59 | hb59
        · replace hM := ct hb59 hM
          refine wg hS rfl rfl rfl hb59 (ky (v := .pointer (some ⟨b32, 0 + 4, none⟩)) hS (y_fld hS rfl fl54_3) rfl rfl fun a hS => ?_)
          refine wg hS rfl rfl rfl hb59 (ky (v := .int .i64 a_0.Changed) hS (y_load hS rfl ty3 1 rfl id (us := [.int .i64 a_0.Changed]) rfl rfl (fun _ => rfl)) rfl rfl fun a hS => ?_)
          refine wg hS rfl rfl rfl hb59 (ky (v := .pointer (some ⟨b35, 0 + 4, none⟩)) hS (y_fld hS rfl fl54_3) rfl rfl fun a hS => ?_)
          refine wg hS rfl rfl rfl hb59 (ky (v := .int .i64 b_1.Changed) hS (y_load hS rfl ty3 0 rfl id (us := [.int .i64 b_1.Changed]) rfl rfl (fun _ => rfl)) rfl rfl fun a hS => ?_)
          refine wg hS rfl rfl rfl hb59 (ky (v := .bool ((a_0.Changed : Int) == b_1.Changed)) hS (y_int hS rfl rfl rfl) rfl rfl fun a hS => ?_)
          refine wl rfl (ky (v := .bool ((a_0.Changed : Int) == b_1.Changed)) hS (y_pickt hS rfl hb59 rfl) rfl rfl fun a hS => ?_)
          refine wl rfl (ky (v := .bool ((a_0.Changed : Int) == b_1.Changed)) hS (y_move hS rfl) rfl rfl fun a hS => ?_)
          rcases bool2 ((a_0.Changed : Int) == b_1.Changed) with hb60 | hb60
          · replace hM := ct hb60 hM
            refine wg hS rfl rfl rfl hb60 (ky (v := .pointer (some ⟨b32, 0 + 5, none⟩)) hS (y_fld hS rfl fl54_4) rfl rfl fun a hS => ?_)
            refine wg hS rfl rfl rfl hb60 (ky (v := .int .i64 a_0.Verified) hS (y_load hS rfl ty3 1 rfl id (us := [.int .i64 a_0.Verified]) rfl rfl (fun _ => rfl)) rfl rfl fun a hS => ?_)
            refine wg hS rfl rfl rfl hb60 (ky (v := .pointer (some ⟨b35, 0 + 5, none⟩)) hS (y_fld hS rfl fl54_4) rfl rfl fun a hS => ?_)
            refine wg hS rfl rfl rfl hb60 (ky (v := .int .i64 b_1.Verified) hS (y_load hS rfl ty3 0 rfl id (us := [.int .i64 b_1.Verified]) rfl rfl (fun _ => rfl)) rfl rfl fun a hS => ?_)
            refine wg hS rfl rfl rfl hb60 (ky (v := .bool ((a_0.Verified : Int) == b_1.Verified)) hS (y_int hS rfl rfl rfl) rfl rfl fun a hS => ?_)
            refine wl rfl (ky (v := .bool ((a_0.Verified : Int) == b_1.Verified)) hS (y_pickt hS rfl hb60 rfl) rfl rfl fun a hS => ?_)
            refine wl rfl (ky (v := .bool ((a_0.Verified : Int) == b_1.Verified)) hS (y_move hS rfl) rfl rfl fun a hS => ?_)
            rcases bool2 ((a_0.Verified : Int) == b_1.Verified) with hb61 | hb61
            · replace hM := ct hb61 hM
              refine wg hS rfl rfl rfl hb61 (ky (v := .pointer (some ⟨b32, 0 + 6, none⟩)) hS (y_fld hS rfl fl54_5) rfl rfl fun a hS => ?_)
              refine wg hS rfl rfl rfl hb61 (ky (v := .int .i64 a_0.Cost) hS (y_load hS rfl ty3 1 rfl id (us := [.int .i64 a_0.Cost]) rfl rfl (fun _ => rfl)) rfl rfl fun a hS => ?_)
              refine wg hS rfl rfl rfl hb61 (ky (v := .pointer (some ⟨b35, 0 + 6, none⟩)) hS (y_fld hS rfl fl54_5) rfl rfl fun a hS => ?_)
              refine wg hS rfl rfl rfl hb61 (ky (v := .int .i64 b_1.Cost) hS (y_load hS rfl ty3 0 rfl id (us := [.int .i64 b_1.Cost]) rfl rfl (fun _ => rfl)) rfl rfl fun a hS => ?_)
              refine wg hS rfl rfl rfl hb61 (ky (v := .bool ((a_0.Cost : Int) == b_1.Cost)) hS (y_int hS rfl rfl rfl) rfl rfl fun a hS => ?_)
              refine wl rfl (ky (v := .bool ((a_0.Cost : Int) == b_1.Cost)) hS (y_pickt hS rfl hb61 rfl) rfl rfl fun a hS => ?_)
              refine wl rfl (ky (v := .bool ((a_0.Cost : Int) == b_1.Cost)) hS (y_move hS rfl) rfl rfl fun a hS => ?_)
              rcases bool2 ((a_0.Cost : Int) == b_1.Cost) with hb62 | hb62
              · replace hM := ct hb62 hM
                refine wg hS rfl rfl rfl hb62 (ky (v := .pointer (some ⟨b32, 0 + 7, none⟩)) hS (y_fld hS rfl fl54_6) rfl rfl fun a hS => ?_)
                refine wg hS rfl rfl rfl hb62 (ky (v := .bool a_0.Dirty) hS (y_load hS rfl ty4 1 rfl id (us := [.bool a_0.Dirty]) rfl rfl (fun _ => rfl)) rfl rfl fun a hS => ?_)
                refine wg hS rfl rfl rfl hb62 (ky (v := .pointer (some ⟨b35, 0 + 7, none⟩)) hS (y_fld hS rfl fl54_6) rfl rfl fun a hS => ?_)
                refine wg hS rfl rfl rfl hb62 (ky (v := .bool b_1.Dirty) hS (y_load hS rfl ty4 0 rfl id (us := [.bool b_1.Dirty]) rfl rfl (fun _ => rfl)) rfl rfl fun a hS => ?_)
                refine wg hS rfl rfl rfl hb62 (ky (v := .bool (a_0.Dirty == b_1.Dirty)) hS (y_bool hS rfl rfl Tryd.underlying4 (.inl ⟨rfl, rfl⟩)) rfl rfl fun a hS => ?_)
                refine wl rfl (ky (v := .bool (a_0.Dirty == b_1.Dirty)) hS (y_pickt hS rfl hb62 rfl) rfl rfl fun a hS => ?_)
                refine wl rfl (ky (v := .bool (a_0.Dirty == b_1.Dirty)) hS (y_assign hS rfl) rfl rfl fun a hS => ?_)
                refine wpList_nil ?_
                try simp only [Exit.then, Exit.inBlock, ↓reduceIte, Nat.reduceEqDiff]
                exact ⟨(a_0.Dirty == b_1.Dirty), (hS.meet [] (by decide) ⟨rfl, trivial⟩ trivial trivial), hM⟩
              · replace hM := cf hb62 hM
                refine wn hS rfl rfl rfl hb62 rfl rfl fun a hS => ?_
                refine wn hS rfl rfl rfl hb62 rfl rfl fun a hS => ?_
                refine wn hS rfl rfl rfl hb62 rfl rfl fun a hS => ?_
                refine wn hS rfl rfl rfl hb62 rfl rfl fun a hS => ?_
                refine wn hS rfl rfl rfl hb62 rfl rfl fun a hS => ?_
                refine wl rfl (ky (v := .bool false) hS (y_pickf hS rfl hb62 rfl) rfl rfl fun a hS => ?_)
                refine wl rfl (ky (v := .bool false) hS (y_assign hS rfl) rfl rfl fun a hS => ?_)
                refine wpList_nil ?_
                try simp only [Exit.then, Exit.inBlock, ↓reduceIte, Nat.reduceEqDiff]
                exact ⟨false, (hS.meet [] (by decide) ⟨rfl, trivial⟩ trivial trivial), hM⟩
            · replace hM := cf hb61 hM
              refine wn hS rfl rfl rfl hb61 rfl rfl fun a hS => ?_
              refine wn hS rfl rfl rfl hb61 rfl rfl fun a hS => ?_
              refine wn hS rfl rfl rfl hb61 rfl rfl fun a hS => ?_
              refine wn hS rfl rfl rfl hb61 rfl rfl fun a hS => ?_
              refine wn hS rfl rfl rfl hb61 rfl rfl fun a hS => ?_
              refine wl rfl (ky (v := .bool false) hS (y_pickf hS rfl hb61 rfl) rfl rfl fun a hS => ?_)
              refine wl rfl (ky (v := .bool false) hS (y_move hS rfl) rfl rfl fun a hS => ?_)
              refine wn hS rfl rfl rfl rfl rfl rfl fun a hS => ?_
              refine wn hS rfl rfl rfl rfl rfl rfl fun a hS => ?_
              refine wn hS rfl rfl rfl rfl rfl rfl fun a hS => ?_
              refine wn hS rfl rfl rfl rfl rfl rfl fun a hS => ?_
              refine wn hS rfl rfl rfl rfl rfl rfl fun a hS => ?_
              refine wl rfl (ky (v := .bool false) hS (y_pickf hS rfl rfl rfl) rfl rfl fun a hS => ?_)
              refine wl rfl (ky (v := .bool false) hS (y_assign hS rfl) rfl rfl fun a hS => ?_)
              refine wpList_nil ?_
              try simp only [Exit.then, Exit.inBlock, ↓reduceIte, Nat.reduceEqDiff]
              exact ⟨false, (hS.meet [] (by decide) ⟨rfl, trivial⟩ trivial trivial), hM⟩
          · replace hM := cf hb60 hM
            refine wn hS rfl rfl rfl hb60 rfl rfl fun a hS => ?_
            refine wn hS rfl rfl rfl hb60 rfl rfl fun a hS => ?_
            refine wn hS rfl rfl rfl hb60 rfl rfl fun a hS => ?_
            refine wn hS rfl rfl rfl hb60 rfl rfl fun a hS => ?_
            refine wn hS rfl rfl rfl hb60 rfl rfl fun a hS => ?_
            refine wl rfl (ky (v := .bool false) hS (y_pickf hS rfl hb60 rfl) rfl rfl fun a hS => ?_)
            refine wl rfl (ky (v := .bool false) hS (y_move hS rfl) rfl rfl fun a hS => ?_)
            refine wn hS rfl rfl rfl rfl rfl rfl fun a hS => ?_
            refine wn hS rfl rfl rfl rfl rfl rfl fun a hS => ?_
            refine wn hS rfl rfl rfl rfl rfl rfl fun a hS => ?_
            refine wn hS rfl rfl rfl rfl rfl rfl fun a hS => ?_
            refine wn hS rfl rfl rfl rfl rfl rfl fun a hS => ?_
            refine wl rfl (ky (v := .bool false) hS (y_pickf hS rfl rfl rfl) rfl rfl fun a hS => ?_)
            refine wl rfl (ky (v := .bool false) hS (y_move hS rfl) rfl rfl fun a hS => ?_)
            refine wn hS rfl rfl rfl rfl rfl rfl fun a hS => ?_
            refine wn hS rfl rfl rfl rfl rfl rfl fun a hS => ?_
            refine wn hS rfl rfl rfl rfl rfl rfl fun a hS => ?_
            refine wn hS rfl rfl rfl rfl rfl rfl fun a hS => ?_
            refine wn hS rfl rfl rfl rfl rfl rfl fun a hS => ?_
            refine wl rfl (ky (v := .bool false) hS (y_pickf hS rfl rfl rfl) rfl rfl fun a hS => ?_)
            refine wl rfl (ky (v := .bool false) hS (y_assign hS rfl) rfl rfl fun a hS => ?_)
            refine wpList_nil ?_
            try simp only [Exit.then, Exit.inBlock, ↓reduceIte, Nat.reduceEqDiff]
            exact ⟨false, (hS.meet [] (by decide) ⟨rfl, trivial⟩ trivial trivial), hM⟩
        · replace hM := cf hb59 hM
          refine wn hS rfl rfl rfl hb59 rfl rfl fun a hS => ?_
          refine wn hS rfl rfl rfl hb59 rfl rfl fun a hS => ?_
          refine wn hS rfl rfl rfl hb59 rfl rfl fun a hS => ?_
          refine wn hS rfl rfl rfl hb59 rfl rfl fun a hS => ?_
          refine wn hS rfl rfl rfl hb59 rfl rfl fun a hS => ?_
          refine wl rfl (ky (v := .bool false) hS (y_pickf hS rfl hb59 rfl) rfl rfl fun a hS => ?_)
          refine wl rfl (ky (v := .bool false) hS (y_move hS rfl) rfl rfl fun a hS => ?_)
          refine wn hS rfl rfl rfl rfl rfl rfl fun a hS => ?_
          refine wn hS rfl rfl rfl rfl rfl rfl fun a hS => ?_
          refine wn hS rfl rfl rfl rfl rfl rfl fun a hS => ?_
          refine wn hS rfl rfl rfl rfl rfl rfl fun a hS => ?_
          refine wn hS rfl rfl rfl rfl rfl rfl fun a hS => ?_
          refine wl rfl (ky (v := .bool false) hS (y_pickf hS rfl rfl rfl) rfl rfl fun a hS => ?_)
          refine wl rfl (ky (v := .bool false) hS (y_move hS rfl) rfl rfl fun a hS => ?_)
          refine wn hS rfl rfl rfl rfl rfl rfl fun a hS => ?_
          refine wn hS rfl rfl rfl rfl rfl rfl fun a hS => ?_
          refine wn hS rfl rfl rfl rfl rfl rfl fun a hS => ?_
          refine wn hS rfl rfl rfl rfl rfl rfl fun a hS => ?_
          refine wn hS rfl rfl rfl rfl rfl rfl fun a hS => ?_
          refine wl rfl (ky (v := .bool false) hS (y_pickf hS rfl rfl rfl) rfl rfl fun a hS => ?_)
          refine wl rfl (ky (v := .bool false) hS (y_move hS rfl) rfl rfl fun a hS => ?_)
          refine wn hS rfl rfl rfl rfl rfl rfl fun a hS => ?_
          refine wn hS rfl rfl rfl rfl rfl rfl fun a hS => ?_
          refine wn hS rfl rfl rfl rfl rfl rfl fun a hS => ?_
          refine wn hS rfl rfl rfl rfl rfl rfl fun a hS => ?_
          refine wn hS rfl rfl rfl rfl rfl rfl fun a hS => ?_
          refine wl rfl (ky (v := .bool false) hS (y_pickf hS rfl rfl rfl) rfl rfl fun a hS => ?_)
          refine wl rfl (ky (v := .bool false) hS (y_assign hS rfl) rfl rfl fun a hS => ?_)
          refine wpList_nil ?_
          try simp only [Exit.then, Exit.inBlock, ↓reduceIte, Nat.reduceEqDiff]
          exact ⟨false, (hS.meet [] (by decide) ⟨rfl, trivial⟩ trivial trivial), hM⟩
      · replace hM := cf hb56 hM
        refine wn hS rfl rfl rfl hb56 rfl rfl fun a hS => ?_
        refine wn hS rfl rfl rfl hb56 rfl rfl fun a hS => ?_
        refine wn hS rfl rfl rfl hb56 rfl rfl fun a hS => ?_
        refine wn hS rfl rfl rfl hb56 rfl rfl fun a hS => ?_
        refine wn hS rfl rfl rfl hb56 rfl rfl fun a hS => ?_
        refine wl rfl (ky (v := .bool false) hS (y_pickf hS rfl hb56 rfl) rfl rfl fun a hS => ?_)
        refine wl rfl (ky (v := .bool false) hS (y_move hS rfl) rfl rfl fun a hS => ?_)
        refine wn hS rfl rfl rfl rfl rfl rfl fun a hS => ?_
        refine wn hS rfl rfl rfl rfl rfl rfl fun a hS => ?_
        refine wn hS rfl rfl rfl rfl rfl rfl fun a hS => ?_
        refine wn hS rfl rfl rfl rfl rfl rfl fun a hS => ?_
        refine wn hS rfl rfl rfl rfl rfl rfl fun a hS => ?_
        refine wl rfl (ky (v := .bool false) hS (y_pickf hS rfl rfl rfl) rfl rfl fun a hS => ?_)
        refine wl rfl (ky (v := .bool false) hS (y_move hS rfl) rfl rfl fun a hS => ?_)
        refine wn hS rfl rfl rfl rfl rfl rfl fun a hS => ?_
        refine wn hS rfl rfl rfl rfl rfl rfl fun a hS => ?_
        refine wn hS rfl rfl rfl rfl rfl rfl fun a hS => ?_
        refine wn hS rfl rfl rfl rfl rfl rfl fun a hS => ?_
        refine wn hS rfl rfl rfl rfl rfl rfl fun a hS => ?_
        refine wl rfl (ky (v := .bool false) hS (y_pickf hS rfl rfl rfl) rfl rfl fun a hS => ?_)
        refine wl rfl (ky (v := .bool false) hS (y_move hS rfl) rfl rfl fun a hS => ?_)
        refine wn hS rfl rfl rfl rfl rfl rfl fun a hS => ?_
        refine wn hS rfl rfl rfl rfl rfl rfl fun a hS => ?_
        refine wn hS rfl rfl rfl rfl rfl rfl fun a hS => ?_
        refine wn hS rfl rfl rfl rfl rfl rfl fun a hS => ?_
        refine wn hS rfl rfl rfl rfl rfl rfl fun a hS => ?_
        refine wl rfl (ky (v := .bool false) hS (y_pickf hS rfl rfl rfl) rfl rfl fun a hS => ?_)
        refine wl rfl (ky (v := .bool false) hS (y_move hS rfl) rfl rfl fun a hS => ?_)
        refine wn hS rfl rfl rfl rfl rfl rfl fun a hS => ?_
        refine wn hS rfl rfl rfl rfl rfl rfl fun a hS => ?_
        refine wn hS rfl rfl rfl rfl rfl rfl fun a hS => ?_
        refine wn hS rfl rfl rfl rfl rfl rfl fun a hS => ?_
        refine wn hS rfl rfl rfl rfl rfl rfl fun a hS => ?_
        refine wl rfl (ky (v := .bool false) hS (y_pickf hS rfl rfl rfl) rfl rfl fun a hS => ?_)
        refine wl rfl (ky (v := .bool false) hS (y_assign hS rfl) rfl rfl fun a hS => ?_)
        refine wpList_nil ?_
        try simp only [Exit.then, Exit.inBlock, ↓reduceIte, Nat.reduceEqDiff]
        exact ⟨false, (hS.meet [] (by decide) ⟨rfl, trivial⟩ trivial trivial), hM⟩
    · replace hM := cf hb55 hM
      refine wn hS rfl rfl rfl hb55 rfl rfl fun a hS => ?_
      refine wn hS rfl rfl rfl hb55 rfl rfl fun a hS => ?_
      refine wn hS rfl rfl rfl hb55 rfl rfl fun a hS => ?_
      refine wn hS rfl rfl rfl hb55 rfl rfl fun a hS => ?_
      refine wn hS rfl rfl rfl hb55 rfl rfl fun a hS => ?_
      refine wl rfl (ky (v := .bool false) hS (y_pickf hS rfl hb55 rfl) rfl rfl fun a hS => ?_)
      refine wl rfl (ky (v := .bool false) hS (y_move hS rfl) rfl rfl fun a hS => ?_)
      refine wn hS rfl rfl rfl rfl rfl rfl fun a hS => ?_
      refine wn hS rfl rfl rfl rfl rfl rfl fun a hS => ?_
      refine wn hS rfl rfl rfl rfl rfl rfl fun a hS => ?_
      refine wn hS rfl rfl rfl rfl rfl rfl fun a hS => ?_
      refine wn hS rfl rfl rfl rfl rfl rfl fun a hS => ?_
      refine wl rfl (ky (v := .bool false) hS (y_pickf hS rfl rfl rfl) rfl rfl fun a hS => ?_)
      refine wl rfl (ky (v := .bool false) hS (y_move hS rfl) rfl rfl fun a hS => ?_)
      refine wn hS rfl rfl rfl rfl rfl rfl fun a hS => ?_
      refine wn hS rfl rfl rfl rfl rfl rfl fun a hS => ?_
      refine wn hS rfl rfl rfl rfl rfl rfl fun a hS => ?_
      refine wn hS rfl rfl rfl rfl rfl rfl fun a hS => ?_
      refine wn hS rfl rfl rfl rfl rfl rfl fun a hS => ?_
      refine wl rfl (ky (v := .bool false) hS (y_pickf hS rfl rfl rfl) rfl rfl fun a hS => ?_)
      refine wl rfl (ky (v := .bool false) hS (y_move hS rfl) rfl rfl fun a hS => ?_)
      refine wn hS rfl rfl rfl rfl rfl rfl fun a hS => ?_
      refine wn hS rfl rfl rfl rfl rfl rfl fun a hS => ?_
      refine wn hS rfl rfl rfl rfl rfl rfl fun a hS => ?_
      refine wn hS rfl rfl rfl rfl rfl rfl fun a hS => ?_
      refine wn hS rfl rfl rfl rfl rfl rfl fun a hS => ?_
      refine wl rfl (ky (v := .bool false) hS (y_pickf hS rfl rfl rfl) rfl rfl fun a hS => ?_)
      refine wl rfl (ky (v := .bool false) hS (y_move hS rfl) rfl rfl fun a hS => ?_)
      refine wn hS rfl rfl rfl rfl rfl rfl fun a hS => ?_
      refine wn hS rfl rfl rfl rfl rfl rfl fun a hS => ?_
      refine wn hS rfl rfl rfl rfl rfl rfl fun a hS => ?_
      refine wn hS rfl rfl rfl rfl rfl rfl fun a hS => ?_
      refine wn hS rfl rfl rfl rfl rfl rfl fun a hS => ?_
      refine wl rfl (ky (v := .bool false) hS (y_pickf hS rfl rfl rfl) rfl rfl fun a hS => ?_)
      refine wl rfl (ky (v := .bool false) hS (y_move hS rfl) rfl rfl fun a hS => ?_)
      refine wn hS rfl rfl rfl rfl rfl rfl fun a hS => ?_
      refine wn hS rfl rfl rfl rfl rfl rfl fun a hS => ?_
      refine wn hS rfl rfl rfl rfl rfl rfl fun a hS => ?_
      refine wn hS rfl rfl rfl rfl rfl rfl fun a hS => ?_
      refine wn hS rfl rfl rfl rfl rfl rfl fun a hS => ?_
      refine wl rfl (ky (v := .bool false) hS (y_pickf hS rfl rfl rfl) rfl rfl fun a hS => ?_)
      refine wl rfl (ky (v := .bool false) hS (y_assign hS rfl) rfl rfl fun a hS => ?_)
      refine wpList_nil ?_
      try simp only [Exit.then, Exit.inBlock, ↓reduceIte, Nat.reduceEqDiff]
      exact ⟨false, (hS.meet [] (by decide) ⟨rfl, trivial⟩ trivial trivial), hM⟩
  · rintro a w ⟨g54, hS, hM⟩
    unfold ref26_SameOne_j1 at hM
    refine wp_ret ?_
    injection hM with hM
    subst hM
    try simp only [Exit.then, Exit.inBlock, ↓reduceIte, Nat.reduceEqDiff]
    refine ret_ok hS Tryd.results45 (res_tmp hS rfl res_nil) ?_
    exact rfl

noncomputable def law26_awake_j1 (g91 : Bool) : Option Bool := some (g91)
noncomputable def law26_awake : Option Bool := (record_Put ([]) (RecordD.mk (KeyD.mk 31 (ByteArray.mk #[52])) (ByteArray.mk #[49, 50]) ([]) 0 0 1 false)).bind fun u56 => (record_Find u56 (KeyD.mk 31 (ByteArray.mk #[52]))).bind fun u59 => (record_Size (RecordD.mk (KeyD.mk 31 (ByteArray.mk #[52])) (ByteArray.mk #[49, 50]) ([]) 0 0 1 false)).bind fun u92 => cond ((u92 : Int) == 19) ((record_Valid (RecordD.mk (KeyD.mk 31 (ByteArray.mk #[52])) (ByteArray.mk #[49, 50]) ([]) 0 0 1 false)).bind fun u95 => cond u95 (cond u59.2 ((ref26_SameOne (RecordD.mk (KeyD.mk u59.1.Key.Kind u59.1.Key.Text) u59.1.Value u59.1.Reads u59.1.Changed u59.1.Verified u59.1.Cost u59.1.Dirty) (RecordD.mk (KeyD.mk 31 (ByteArray.mk #[52])) (ByteArray.mk #[49, 50]) ([]) 0 0 1 false)).bind fun u99 => cond u99 ((record_Drop u56 (KeyD.mk 31 (ByteArray.mk #[52]))).bind fun u102 => law26_awake_j1 (((u102.length : Int) : Int) == 0)) (law26_awake_j1 false)) (law26_awake_j1 false)) (law26_awake_j1 false)) (law26_awake_j1 false)
set_option maxRecDepth 100000 in
set_option maxHeartbeats 4000000 in
theorem law26_awake_c (T : Nat → Prop) (W0 : World) (hT : ∀ k, T k → k < W0.heap.size) (hLv : LvP T W0) (y : Bool) (hM : law26_awake = some y) : Rets Tryd.prog No 33 [] W0 (fun v w' => v = .bool y) := by
  refine enter (c := _) Tryd.func33 rfl T 39 Tryd.ntmps33 hT rfl fun a hS => ?_
  replace hS := hS.fact LvF (LvP.dn hLv)
  unfold law26_awake at hM
  refine wp_seq_k fun K5 hK5 => ?_
  refine r_list ?_
  refine wl rfl (ky (v := .bool false) hS (y_assign hS rfl) rfl rfl fun a hS => ?_)
  refine wpList_nil ?_
  try simp only [Exit.then, Exit.inBlock, ↓reduceIte, Nat.reduceEqDiff]
  refine hK5 _ _ ?_
  refine wp_seq_k fun K6 hK6 => ?_
  refine r_list ?_
  refine wl rfl (ky (v := .agg #[.int .i64 31, .string (ByteArray.mk #[52])]) hS (y_build (ps := [(0, .const (.int .i64 31)), (1, .const (.string ⟨#[52]⟩))]) hS pl28 ze28 rfl (us := [[.int .i64 31], [.string (ByteArray.mk #[52])]]) ⟨rfl, ⟨rfl, trivial⟩⟩ (ws := [.int .i64 31, .string (ByteArray.mk #[52])]) rfl) rfl rfl fun a hS => ?_)
  refine wl rfl (ky (v := .agg #[.int .i64 31, .string (ByteArray.mk #[52]), .string (ByteArray.mk #[49, 50]), .slice none 0 0, .int .i64 0, .int .i64 0, .int .i64 1, .bool false]) hS (y_build (ps := [(0, .tmp 5), (1, .const (.string ⟨#[49, 50]⟩)), (5, .const (.int .i64 1))]) hS pl54 ze54 rfl (us := [[.int .i64 31, .string (ByteArray.mk #[52])], [.string (ByteArray.mk #[49, 50])], [.int .i64 1]]) ⟨rfl, ⟨rfl, ⟨rfl, trivial⟩⟩⟩ (ws := [.int .i64 31, .string (ByteArray.mk #[52]), .string (ByteArray.mk #[49, 50]), .slice none 0 0, .int .i64 0, .int .i64 0, .int .i64 1, .bool false]) rfl) rfl rfl fun a hS => ?_)
  refine wl rfl (k_alloc hS ze54 rfl fun b53 hnb55 a w hk hS => ?_)
  refine wl rfl (k_store hS rfl rfl (us := [.int .i64 31, .string (ByteArray.mk #[52]), .string (ByteArray.mk #[49, 50]), .slice none 0 0, .int .i64 0, .int .i64 0, .int .i64 1, .bool false]) rfl ty54 0 rfl rfl rfl (oc rfl (oc rfl (oc rfl (oc rfl (oc rfl (oc rfl (oc rfl (oc rfl on)))))))) fun w hk hS => ?_)
  refine wpList_nil ?_
  try simp only [Exit.then, Exit.inBlock, ↓reduceIte, Nat.reduceEqDiff]
  refine hK6 _ _ ?_
  refine wp_seq_k fun K7 hK7 => ?_
  refine r_list ?_
  refine wl rfl (ky (v := .agg #[.int .i64 31, .string (ByteArray.mk #[52]), .string (ByteArray.mk #[49, 50]), .slice none 0 0, .int .i64 0, .int .i64 0, .int .i64 1, .bool false]) hS (y_load hS rfl ty54 0 rfl id (us := [.int .i64 31, .string (ByteArray.mk #[52]), .string (ByteArray.mk #[49, 50]), .slice none 0 0, .int .i64 0, .int .i64 0, .int .i64 1, .bool false]) rfl rfl (fun h => by cases h)) rfl rfl fun a hS => ?_)
  replace hS := hS.fact (SlF R_RecordD (.slice none 0 0) []) (SlR.nil_ _ _ _)
  replace hS := hS.fact (SlF R_KeyD (.slice none 0 0) []) (SlR.nil_ _ _ _)
  obtain ⟨u56, hu56, hM⟩ := bd hM
  refine wl rfl (k_call hS ci38 rfl rfl (record_Put_c _ _ hS.dlt (hS.get 2 rfl) ([]) (RecordD.mk (KeyD.mk 31 (ByteArray.mk #[52])) (ByteArray.mk #[49, 50]) ([]) 0 0 1 false) _ _ (hS.get 1 rfl) (hS.get 0 rfl) _ hu56) fun _ w hR a hk hA => ?_)
  obtain ⟨vz57_3, clz57_4, he, ⟨hOvz57_3, hFvz57_3, hRvz57_3⟩⟩ := hR
  replace he := he.symm
  subst he
  have hS := hA [.own vz57_3 54 R_RecordD.size clz57_4] (adds1 ⟨hOvz57_3, by decide⟩ hFvz57_3) (pw1 _)
  replace hS := hS.fact (RowsF R_RecordD clz57_4 u56) (hRvz57_3.keep (Kt.refl _ _) (dT_dT _))
  refine wl rfl (ky (v := vz57_3) hS (y_assign hS rfl) rfl rfl fun a hS => ?_)
  refine wpList_nil ?_
  try simp only [Exit.then, Exit.inBlock, ↓reduceIte, Nat.reduceEqDiff]
  refine hK7 _ _ ?_
  refine wp_seq_k fun K8 hK8 => ?_
  refine r_list ?_
  refine wl rfl (ky (v := vz57_3) hS (y_move hS rfl) rfl rfl fun a hS => ?_)
  refine wl rfl (ky (v := .pointer (some ⟨b53, 0 + 0, none⟩)) hS (y_fld hS rfl fl54_0) rfl rfl fun a hS => ?_)
  refine wl rfl (ky (v := .agg #[.int .i64 31, .string (ByteArray.mk #[52])]) hS (y_load hS rfl ty28 1 rfl id (us := [.int .i64 31, .string (ByteArray.mk #[52])]) rfl rfl (fun h => by cases h)) rfl rfl fun a hS => ?_)
  have hL := hS
  replace hL := hL.freeze (R := R_RecordD) 0 rfl 0 rfl
  obtain ⟨u59, hu59, hM⟩ := bd hM
  refine wl rfl (k_call hS ci44 rfl rfl (record_Find_c _ _ hL.dlt (hL.get 4 rfl) u56 (KeyD.mk 31 (ByteArray.mk #[52])) _ (hL.get 0 rfl) _ hu59) fun _ w hR a hk hA => ?_)
  obtain ⟨vz60_2, clz60_3, he, ⟨hOvz60_2, hFvz60_2, hRvz60_2⟩⟩ := hR
  replace he := he.symm
  subst he
  have hS := hA [.own vz60_2 28 R_KeyD.size clz60_3] (adds1 ⟨hOvz60_2, by decide⟩ hFvz60_2) (pw1 _)
  replace hS := hS.fact (RowsF R_KeyD clz60_3 u59.1.Reads) hRvz60_2
  refine wl rfl (ky (v := .tuple #[.agg #[.int .i64 u59.1.Key.Kind, .string u59.1.Key.Text, .string u59.1.Value, vz60_2, .int .i64 u59.1.Changed, .int .i64 u59.1.Verified, .int .i64 u59.1.Cost, .bool u59.1.Dirty], .bool u59.2]) hS (y_move hS rfl) rfl rfl fun a hS => ?_)
  refine wl rfl (ky (v := .agg #[.int .i64 u59.1.Key.Kind, .string u59.1.Key.Text, .string u59.1.Value, vz60_2, .int .i64 u59.1.Changed, .int .i64 u59.1.Verified, .int .i64 u59.1.Cost, .bool u59.1.Dirty]) hS (y_ex hS rfl rfl) rfl rfl fun a hS => ?_)
  refine wl rfl (ky (v := .bool u59.2) hS (y_ex hS rfl rfl) rfl rfl fun a hS => ?_)
  refine wl rfl (k_alloc hS ze54 rfl fun b62 hnb64 a w hk hS => ?_)
  refine wl rfl (k_store hS rfl rfl (us := [.int .i64 u59.1.Key.Kind, .string u59.1.Key.Text, .string u59.1.Value, vz60_2, .int .i64 u59.1.Changed, .int .i64 u59.1.Verified, .int .i64 u59.1.Cost, .bool u59.1.Dirty]) rfl ty54 0 rfl rfl rfl (oc rfl (oc rfl (oc rfl (oc (own_one (hS.own _ (List.mem_of_getElem? (i := 1) rfl)).1) (oc rfl (oc rfl (oc rfl (oc rfl on)))))))) fun w hk hS => ?_)
  refine wl rfl (ky (v := .bool u59.2) hS (y_assign hS rfl) rfl rfl fun a hS => ?_)
  refine wpList_nil ?_
  try simp only [Exit.then, Exit.inBlock, ↓reduceIte, Nat.reduceEqDiff]
  refine hK8 _ _ ?_
  refine seq_j (J := fun a w => ∃ (g91 : Bool), St W0 No T 39 [(0, .bool g91)] [] [LvF] a w ∧ law26_awake_j1 g91 = some y) ?_ ?_
  · skip
    refine r_list ?_
    refine wl rfl (ky (v := .agg #[.int .i64 31, .string (ByteArray.mk #[52]), .string (ByteArray.mk #[49, 50]), .slice none 0 0, .int .i64 0, .int .i64 0, .int .i64 1, .bool false]) hS (y_load hS rfl ty54 3 rfl id (us := [.int .i64 31, .string (ByteArray.mk #[52]), .string (ByteArray.mk #[49, 50]), .slice none 0 0, .int .i64 0, .int .i64 0, .int .i64 1, .bool false]) rfl rfl (fun h => by cases h)) rfl rfl fun a hS => ?_)
    obtain ⟨u92, hu92, hM⟩ := bd hM
    refine wl rfl (k_call hS ci47 rfl rfl (record_Size_c _ _ hS.dlt (RecordD.mk (KeyD.mk 31 (ByteArray.mk #[52])) (ByteArray.mk #[49, 50]) ([]) 0 0 1 false) _ (hS.get 2 rfl) _ hu92) fun _ w hR a hk hA => ?_)
    have he := Eq.symm hR
    subst he
    have hS := hA [] (fun r hr => by cases hr) List.Pairwise.nil
    refine wl rfl (ky (v := .bool ((u92 : Int) == 19)) hS (y_int hS rfl rfl rfl) rfl rfl fun a hS => ?_)
    refine wl rfl (ky (v := .bool ((u92 : Int) == 19)) hS (y_move hS rfl) rfl rfl fun a hS => ?_)
    rcases bool2 ((u92 : Int) == 19) with hb94 | hb94
    · replace hM := ct hb94 hM
      refine wg hS rfl rfl rfl hb94 (ky (v := .agg #[.int .i64 31, .string (ByteArray.mk #[52]), .string (ByteArray.mk #[49, 50]), .slice none 0 0, .int .i64 0, .int .i64 0, .int .i64 1, .bool false]) hS (y_load hS rfl ty54 3 rfl id (us := [.int .i64 31, .string (ByteArray.mk #[52]), .string (ByteArray.mk #[49, 50]), .slice none 0 0, .int .i64 0, .int .i64 0, .int .i64 1, .bool false]) rfl rfl (fun h => by cases h)) rfl rfl fun a hS => ?_)
      obtain ⟨u95, hu95, hM⟩ := bd hM
      refine wg hS rfl rfl rfl hb94 (k_call hS ci48 rfl rfl (record_Valid_c _ _ hS.dlt (hS.get 4 rfl) (RecordD.mk (KeyD.mk 31 (ByteArray.mk #[52])) (ByteArray.mk #[49, 50]) ([]) 0 0 1 false) _ (hS.get 2 rfl) _ hu95) fun _ w hR a hk hA => ?_)
      have he := Eq.symm hR
      subst he
      have hS := hA [] (fun r hr => by cases hr) List.Pairwise.nil
      refine wl rfl (ky (v := .bool u95) hS (y_pickt hS rfl hb94 rfl) rfl rfl fun a hS => ?_)
      refine wl rfl (ky (v := .bool u95) hS (y_move hS rfl) rfl rfl fun a hS => ?_)
      rcases bool2 (u95) with hb97 | hb97
      · replace hM := ct hb97 hM
        refine wg hS rfl rfl rfl hb97 (ky (v := .bool u59.2) hS (y_move hS rfl) rfl rfl fun a hS => ?_)
        refine wl rfl (ky (v := .bool u59.2) hS (y_pickt hS rfl hb97 rfl) rfl rfl fun a hS => ?_)
        refine wl rfl (ky (v := .bool u59.2) hS (y_move hS rfl) rfl rfl fun a hS => ?_)
        rcases bool2 (u59.2) with hb98 | hb98
        · replace hM := ct hb98 hM
          refine wg hS rfl rfl rfl hb98 (ky (v := .agg #[.int .i64 u59.1.Key.Kind, .string u59.1.Key.Text, .string u59.1.Value, vz60_2, .int .i64 u59.1.Changed, .int .i64 u59.1.Verified, .int .i64 u59.1.Cost, .bool u59.1.Dirty]) hS (y_load hS rfl ty54 0 rfl id (us := [.int .i64 u59.1.Key.Kind, .string u59.1.Key.Text, .string u59.1.Value, vz60_2, .int .i64 u59.1.Changed, .int .i64 u59.1.Verified, .int .i64 u59.1.Cost, .bool u59.1.Dirty]) rfl rfl (fun h => by cases h)) rfl rfl fun a hS => ?_)
          refine wg hS rfl rfl rfl hb98 (ky (v := .agg #[.int .i64 31, .string (ByteArray.mk #[52]), .string (ByteArray.mk #[49, 50]), .slice none 0 0, .int .i64 0, .int .i64 0, .int .i64 1, .bool false]) hS (y_load hS rfl ty54 3 rfl id (us := [.int .i64 31, .string (ByteArray.mk #[52]), .string (ByteArray.mk #[49, 50]), .slice none 0 0, .int .i64 0, .int .i64 0, .int .i64 1, .bool false]) rfl rfl (fun h => by cases h)) rfl rfl fun a hS => ?_)
          have hL := hS
          replace hL := hL.freeze (R := R_KeyD) 1 rfl 0 rfl
          obtain ⟨u99, hu99, hM⟩ := bd hM
          refine wg hS rfl rfl rfl hb98 (k_call hS ci45 rfl rfl (ref26_SameOne_c _ _ hL.dlt (RecordD.mk (KeyD.mk u59.1.Key.Kind u59.1.Key.Text) u59.1.Value u59.1.Reads u59.1.Changed u59.1.Verified u59.1.Cost u59.1.Dirty) (RecordD.mk (KeyD.mk 31 (ByteArray.mk #[52])) (ByteArray.mk #[49, 50]) ([]) 0 0 1 false) _ _ (hL.get 0 rfl) (hL.get 3 rfl) _ hu99) fun _ w hR a hk hA => ?_)
          have he := Eq.symm hR
          subst he
          have hS := hA [] (fun r hr => by cases hr) List.Pairwise.nil
          refine wl rfl (ky (v := .bool u99) hS (y_pickt hS rfl hb98 rfl) rfl rfl fun a hS => ?_)
          refine wl rfl (ky (v := .bool u99) hS (y_move hS rfl) rfl rfl fun a hS => ?_)
          rcases bool2 (u99) with hb101 | hb101
          · replace hM := ct hb101 hM
            refine wg hS rfl rfl rfl hb101 (ky (v := vz57_3) hS (y_move hS rfl) rfl rfl fun a hS => ?_)
            refine wg hS rfl rfl rfl hb101 (ky (v := .pointer (some ⟨b53, 0 + 0, none⟩)) hS (y_fld hS rfl fl54_0) rfl rfl fun a hS => ?_)
            refine wg hS rfl rfl rfl hb101 (ky (v := .agg #[.int .i64 31, .string (ByteArray.mk #[52])]) hS (y_load hS rfl ty28 3 rfl id (us := [.int .i64 31, .string (ByteArray.mk #[52])]) rfl rfl (fun h => by cases h)) rfl rfl fun a hS => ?_)
            replace hS := hS.freeze (R := R_RecordD) 2 rfl 1 rfl
            obtain ⟨u102, hu102, hM⟩ := bd hM
            refine wg hS rfl rfl rfl hb101 (k_call hS ci40 rfl rfl (record_Drop_c _ _ hS.dlt (hS.get 5 rfl) u56 (KeyD.mk 31 (ByteArray.mk #[52])) _ (hS.get 0 rfl) _ hu102) fun _ w hR a hk hA => ?_)
            obtain ⟨vz103_2, clz103_3, he, ⟨hOvz103_2, hFvz103_2, hRvz103_2⟩⟩ := hR
            replace he := he.symm
            subst he
            have hS := hA [.own vz103_2 54 R_RecordD.size clz103_3] (adds1 ⟨hOvz103_2, by decide⟩ hFvz103_2) (pw1 _)
            replace hS := hS.fact (RowsF R_RecordD clz103_3 u102) (hRvz103_2.keep (Kt.refl _ _) (dT_dT _))
            refine wg hS rfl rfl rfl hb101 (ky (v := .int .i64 (u102.length : Int)) hS (y_leno (R := R_RecordD) (xs := u102) hS sl51 rfl 0 rfl 0 rfl) rfl rfl fun a hS => ?_)
            refine wg hS rfl rfl rfl hb101 (ky (v := .bool (((u102.length : Int) : Int) == 0)) hS (y_int hS rfl rfl rfl) rfl rfl fun a hS => ?_)
            refine wl rfl (ky (v := .bool (((u102.length : Int) : Int) == 0)) hS (y_pickt hS rfl hb101 rfl) rfl rfl fun a hS => ?_)
            refine wl rfl (ky (v := .bool (((u102.length : Int) : Int) == 0)) hS (y_assign hS rfl) rfl rfl fun a hS => ?_)
            refine wpList_nil ?_
            try simp only [Exit.then, Exit.inBlock, ↓reduceIte, Nat.reduceEqDiff]
            exact ⟨(((u102.length : Int) : Int) == 0), (hS.meet [] (by decide) ⟨rfl, trivial⟩ trivial ⟨⟨6, rfl⟩, trivial⟩), hM⟩
          · replace hM := cf hb101 hM
            refine wn hS rfl rfl rfl hb101 rfl rfl fun a hS => ?_
            refine wn hS rfl rfl rfl hb101 rfl rfl fun a hS => ?_
            refine wn hS rfl rfl rfl hb101 rfl rfl fun a hS => ?_
            refine wn hS rfl rfl rfl hb101 rfl rfl fun a hS => ?_
            refine wn hS rfl rfl rfl hb101 rfl rfl fun a hS => ?_
            refine wn hS rfl rfl rfl hb101 rfl rfl fun a hS => ?_
            refine wl rfl (ky (v := .bool false) hS (y_pickf hS rfl hb101 rfl) rfl rfl fun a hS => ?_)
            refine wl rfl (ky (v := .bool false) hS (y_assign hS rfl) rfl rfl fun a hS => ?_)
            refine wpList_nil ?_
            try simp only [Exit.then, Exit.inBlock, ↓reduceIte, Nat.reduceEqDiff]
            exact ⟨false, (hS.meet [] (by decide) ⟨rfl, trivial⟩ trivial ⟨⟨4, rfl⟩, trivial⟩), hM⟩
        · replace hM := cf hb98 hM
          refine wn hS rfl rfl rfl hb98 rfl rfl fun a hS => ?_
          refine wn hS rfl rfl rfl hb98 rfl rfl fun a hS => ?_
          refine wn hS rfl rfl rfl hb98 rfl rfl fun a hS => ?_
          refine wl rfl (ky (v := .bool false) hS (y_pickf hS rfl hb98 rfl) rfl rfl fun a hS => ?_)
          refine wl rfl (ky (v := .bool false) hS (y_move hS rfl) rfl rfl fun a hS => ?_)
          refine wn hS rfl rfl rfl rfl rfl rfl fun a hS => ?_
          refine wn hS rfl rfl rfl rfl rfl rfl fun a hS => ?_
          refine wn hS rfl rfl rfl rfl rfl rfl fun a hS => ?_
          refine wn hS rfl rfl rfl rfl rfl rfl fun a hS => ?_
          refine wn hS rfl rfl rfl rfl rfl rfl fun a hS => ?_
          refine wn hS rfl rfl rfl rfl rfl rfl fun a hS => ?_
          refine wl rfl (ky (v := .bool false) hS (y_pickf hS rfl rfl rfl) rfl rfl fun a hS => ?_)
          refine wl rfl (ky (v := .bool false) hS (y_assign hS rfl) rfl rfl fun a hS => ?_)
          refine wpList_nil ?_
          try simp only [Exit.then, Exit.inBlock, ↓reduceIte, Nat.reduceEqDiff]
          exact ⟨false, (hS.meet [] (by decide) ⟨rfl, trivial⟩ trivial ⟨⟨4, rfl⟩, trivial⟩), hM⟩
      · replace hM := cf hb97 hM
        refine wn hS rfl rfl rfl hb97 rfl rfl fun a hS => ?_
        refine wl rfl (ky (v := .bool false) hS (y_pickf hS rfl hb97 rfl) rfl rfl fun a hS => ?_)
        refine wl rfl (ky (v := .bool false) hS (y_move hS rfl) rfl rfl fun a hS => ?_)
        refine wn hS rfl rfl rfl rfl rfl rfl fun a hS => ?_
        refine wn hS rfl rfl rfl rfl rfl rfl fun a hS => ?_
        refine wn hS rfl rfl rfl rfl rfl rfl fun a hS => ?_
        refine wl rfl (ky (v := .bool false) hS (y_pickf hS rfl rfl rfl) rfl rfl fun a hS => ?_)
        refine wl rfl (ky (v := .bool false) hS (y_move hS rfl) rfl rfl fun a hS => ?_)
        refine wn hS rfl rfl rfl rfl rfl rfl fun a hS => ?_
        refine wn hS rfl rfl rfl rfl rfl rfl fun a hS => ?_
        refine wn hS rfl rfl rfl rfl rfl rfl fun a hS => ?_
        refine wn hS rfl rfl rfl rfl rfl rfl fun a hS => ?_
        refine wn hS rfl rfl rfl rfl rfl rfl fun a hS => ?_
        refine wn hS rfl rfl rfl rfl rfl rfl fun a hS => ?_
        refine wl rfl (ky (v := .bool false) hS (y_pickf hS rfl rfl rfl) rfl rfl fun a hS => ?_)
        refine wl rfl (ky (v := .bool false) hS (y_assign hS rfl) rfl rfl fun a hS => ?_)
        refine wpList_nil ?_
        try simp only [Exit.then, Exit.inBlock, ↓reduceIte, Nat.reduceEqDiff]
        exact ⟨false, (hS.meet [] (by decide) ⟨rfl, trivial⟩ trivial ⟨⟨4, rfl⟩, trivial⟩), hM⟩
    · replace hM := cf hb94 hM
      refine wn hS rfl rfl rfl hb94 rfl rfl fun a hS => ?_
      refine wn hS rfl rfl rfl hb94 rfl rfl fun a hS => ?_
      refine wl rfl (ky (v := .bool false) hS (y_pickf hS rfl hb94 rfl) rfl rfl fun a hS => ?_)
      refine wl rfl (ky (v := .bool false) hS (y_move hS rfl) rfl rfl fun a hS => ?_)
      refine wn hS rfl rfl rfl rfl rfl rfl fun a hS => ?_
      refine wl rfl (ky (v := .bool false) hS (y_pickf hS rfl rfl rfl) rfl rfl fun a hS => ?_)
      refine wl rfl (ky (v := .bool false) hS (y_move hS rfl) rfl rfl fun a hS => ?_)
      refine wn hS rfl rfl rfl rfl rfl rfl fun a hS => ?_
      refine wn hS rfl rfl rfl rfl rfl rfl fun a hS => ?_
      refine wn hS rfl rfl rfl rfl rfl rfl fun a hS => ?_
      refine wl rfl (ky (v := .bool false) hS (y_pickf hS rfl rfl rfl) rfl rfl fun a hS => ?_)
      refine wl rfl (ky (v := .bool false) hS (y_move hS rfl) rfl rfl fun a hS => ?_)
      refine wn hS rfl rfl rfl rfl rfl rfl fun a hS => ?_
      refine wn hS rfl rfl rfl rfl rfl rfl fun a hS => ?_
      refine wn hS rfl rfl rfl rfl rfl rfl fun a hS => ?_
      refine wn hS rfl rfl rfl rfl rfl rfl fun a hS => ?_
      refine wn hS rfl rfl rfl rfl rfl rfl fun a hS => ?_
      refine wn hS rfl rfl rfl rfl rfl rfl fun a hS => ?_
      refine wl rfl (ky (v := .bool false) hS (y_pickf hS rfl rfl rfl) rfl rfl fun a hS => ?_)
      refine wl rfl (ky (v := .bool false) hS (y_assign hS rfl) rfl rfl fun a hS => ?_)
      refine wpList_nil ?_
      try simp only [Exit.then, Exit.inBlock, ↓reduceIte, Nat.reduceEqDiff]
      exact ⟨false, (hS.meet [] (by decide) ⟨rfl, trivial⟩ trivial ⟨⟨4, rfl⟩, trivial⟩), hM⟩
  · rintro a w ⟨g91, hS, hM⟩
    unfold law26_awake_j1 at hM
    refine wp_ret ?_
    injection hM with hM
    subst hM
    try simp only [Exit.then, Exit.inBlock, ↓reduceIte, Nat.reduceEqDiff]
    refine ret_ok hS Tryd.results33 (res_tmp hS rfl res_nil) ?_
    exact rfl

noncomputable def law26_one_j1 (u221 : (Int × DiceD)) (u225 : (ByteArray × DiceD)) (u229 : (ByteArray × DiceD)) (u231 : (Int × DiceD)) (u233 : (Int × DiceD)) (u244 : (Int × DiceD)) (r316 : (List KeyD)) (d320 : (List Int)) (d322 : Int) : Option (RecordD × DiceD) := some (((RecordD.mk (KeyD.mk (IntKind.i64.wrap (31 + u221.1)) u225.1) u229.1 r316 u233.1 (IntKind.i64.wrap (u233.1 + u244.1)) (IntKind.i64.wrap (1 + u231.1)) false), (DiceD.mk d320 d322)))
noncomputable def law26_one_l2 (k356 : Int) (d357 : (List Int)) (d359 : Int) (r360 : (List KeyD)) : Option (Fl (Int × (List Int) × Int × (List KeyD)) ((List KeyD) × (List Int) × Int)) := cond (decide ((0 : Int) < k356)) ((dice_Next (DiceD.mk d357 d359) 4).bind fun u405 => (ref23_Cell u405.1).bind fun u407 => gd (roomB (r360.length + ([u407]).length)) <| some (.go (IntKind.i64.wrap (k356 - 1), u405.2.L, u405.2.At, (r360 ++ ([u407]))))) (some (.out (r360, d357, d359)))
noncomputable def law26_one (d_0 : DiceD) : Option (RecordD × DiceD) := (dice_Next d_0 2).bind fun u221 => (dice_Word (DiceD.mk u221.2.L u221.2.At) ([(ByteArray.mk #[48]), (ByteArray.mk #[49]), (ByteArray.mk #[50]), (ByteArray.mk #[51]), (ByteArray.mk #[49, 50])])).bind fun u225 => (dice_Word (DiceD.mk u225.2.L u225.2.At) ([(ByteArray.mk #[]), (ByteArray.mk #[49]), (ByteArray.mk #[50, 48, 48])])).bind fun u229 => (dice_Next (DiceD.mk u229.2.L u229.2.At) 3).bind fun u231 => (dice_Next (DiceD.mk u231.2.L u231.2.At) 4).bind fun u233 => (dice_Next (DiceD.mk u233.2.L u233.2.At) 3).bind fun u244 => (dice_Next (DiceD.mk u244.2.L u244.2.At) 3).bind fun u323 => (loop (fun s : Int × (List Int) × Int × (List KeyD) => law26_one_l2 s.1 s.2.1 s.2.2.1 s.2.2.2) (u323.1, u323.2.L, u323.2.At, ([] : List KeyD))).bind fun r => law26_one_j1 u221 u225 u229 u231 u233 u244 r.1 r.2.1 r.2.2
set_option maxRecDepth 100000 in
set_option maxHeartbeats 4000000 in
theorem law26_one_c (T : Nat → Prop) (W0 : World) (hT : ∀ k, T k → k < W0.heap.size) (d_0 : DiceD) (v2 : Value) (b1 : Nat) (hb1 : W0.heap[b1]? = some (.cells #[v2, .int .i64 d_0.At] 98 (0, 0))) (hTb1 : ¬ T b1) (hv2 : SlR (Rep.int .i64) (dT T [.box b1 [v2, .int .i64 d_0.At] 98]) W0 v2 d_0.L) (hLv : LvP (dT T [.box b1 [v2, .int .i64 d_0.At] 98]) W0) (y : RecordD × DiceD) (hM : law26_one d_0 = some y) : Rets Tryd.prog (fun k => k = b1) 36 [.pointer (some ⟨b1, 0, none⟩)] W0 (fun v w' => ∃ (v3 : Value) (cl4 : List Value) (v5 : Value), v = .agg #[.int .i64 y.1.Key.Kind, .string y.1.Key.Text, .string y.1.Value, v3, .int .i64 y.1.Changed, .int .i64 y.1.Verified, .int .i64 y.1.Cost, .bool y.1.Dirty] ∧ OwnR R_KeyD T W0 w' [.own v3 28 R_KeyD.size cl4, .box b1 [v5, .int .i64 y.2.At] 98] 28 v3 cl4 y.1.Reads ∧ w'.heap[b1]? = some (.cells #[v5, .int .i64 y.2.At] 98 (0, 0)) ∧ SlR (Rep.int .i64) (dT T [.own v3 28 R_KeyD.size cl4, .box b1 [v5, .int .i64 y.2.At] 98]) w' v5 y.2.L) := by
  refine enterm (c := _) Tryd.func36 rfl T 42 Tryd.ntmps36 hT rfl hb1 hTb1 fun a hS => ?_
  replace hS := hS.fact LvF hLv
  replace hS := hS.fact (SlF (Rep.int .i64) v2 d_0.L) hv2
  unfold law26_one at hM
  refine wp_seq_k fun K19 hK19 => ?_
  refine r_list ?_
  refine wl rfl (k_alloc hS ze54 rfl fun b218 hnb220 a w hk hS => ?_)
  refine wpList_nil ?_
  try simp only [Exit.then, Exit.inBlock, ↓reduceIte, Nat.reduceEqDiff]
  refine hK19 _ _ ?_
  refine wp_seq_k fun K20 hK20 => ?_
  refine r_list ?_
  refine wl rfl (ky (v := .pointer (some ⟨b1, 0, none⟩)) hS (y_move hS rfl) rfl rfl fun a hS => ?_)
  obtain ⟨u221, hu221, hM⟩ := bd hM
  refine wl rfl (k_callm hS ci42 rfl rfl 1 rfl (dice_Next_c _ _ (hS.drop 1).dlt d_0 2 _ _ (hS.boxRow 1 rfl) (hS.notin 1 rfl) (SlR.lent (i := 1) rfl (hS.get 0 rfl)) _ hu221) fun _ w hR hk => ?_)
  obtain ⟨vz222_3, he, hrow, hRvz222_3⟩ := hR
  replace he := he.symm
  subst he
  refine ⟨[vz222_3, .int .i64 u221.2.At], hrow, fun a hS => ?_⟩
  replace hS := hS.fact (SlF (Rep.int .i64) vz222_3 u221.2.L) (SlR.back (i := 1) rfl hRvz222_3)
  refine wl rfl (ky (v := .int .i64 (IntKind.i64.wrap (31 + u221.1))) hS (y_int hS rfl rfl rfl) rfl rfl fun a hS => ?_)
  refine wl rfl (ky (v := .pointer (some ⟨b1, 0, none⟩)) hS (y_move hS rfl) rfl rfl fun a hS => ?_)
  refine wl rfl (k_bslice (ps := [(0, .const (.string ⟨#[48]⟩)), (1, .const (.string ⟨#[49]⟩)), (2, .const (.string ⟨#[50]⟩)), (3, .const (.string ⟨#[51]⟩)), (4, .const (.string ⟨#[49, 50]⟩))]) hS el32 ze9 (zl := [.string (ByteArray.mk #[]), .string (ByteArray.mk #[]), .string (ByteArray.mk #[]), .string (ByteArray.mk #[]), .string (ByteArray.mk #[])]) (by kernel_rfl) rfl (us := [[.string (ByteArray.mk #[48])], [.string (ByteArray.mk #[49])], [.string (ByteArray.mk #[50])], [.string (ByteArray.mk #[51])], [.string (ByteArray.mk #[49, 50])]]) ⟨rfl, ⟨rfl, ⟨rfl, ⟨rfl, ⟨rfl, trivial⟩⟩⟩⟩⟩ (ws := [.string (ByteArray.mk #[48]), .string (ByteArray.mk #[49]), .string (ByteArray.mk #[50]), .string (ByteArray.mk #[51]), .string (ByteArray.mk #[49, 50])]) rfl rfl rfl rfl fun b223 a w hk hS => ?_)
  replace hS := hS.lit (R := Rep.str) (us := [.string (ByteArray.mk #[48]), .string (ByteArray.mk #[49]), .string (ByteArray.mk #[50]), .string (ByteArray.mk #[51]), .string (ByteArray.mk #[49, 50])]) (xs := [(ByteArray.mk #[48]), (ByteArray.mk #[49]), (ByteArray.mk #[50]), (ByteArray.mk #[51]), (ByteArray.mk #[49, 50])]) 0 rfl (by decide) ((RowsOk.one_ (R := Rep.str) (x := (ByteArray.mk #[48])) rfl).append ((RowsOk.one_ (R := Rep.str) (x := (ByteArray.mk #[49])) rfl).append ((RowsOk.one_ (R := Rep.str) (x := (ByteArray.mk #[50])) rfl).append ((RowsOk.one_ (R := Rep.str) (x := (ByteArray.mk #[51])) rfl).append (RowsOk.one_ (R := Rep.str) (x := (ByteArray.mk #[49, 50])) rfl))))) rfl rfl
  replace hS := hS.freeze (R := Rep.str) 0 rfl 0 rfl
  obtain ⟨u225, hu225, hM⟩ := bd hM
  refine wl rfl (k_callm hS ci60 rfl rfl 1 rfl (dice_Word_c _ _ (hS.drop 1).dlt (DiceD.mk u221.2.L u221.2.At) ([(ByteArray.mk #[48]), (ByteArray.mk #[49]), (ByteArray.mk #[50]), (ByteArray.mk #[51]), (ByteArray.mk #[49, 50])]) _ _ _ (hS.boxRow 1 rfl) (hS.notin 1 rfl) (SlR.lent (i := 1) rfl (hS.get 2 rfl)) (SlR.lent (i := 1) rfl (hS.get 0 rfl)) _ hu225) fun _ w hR hk => ?_)
  obtain ⟨vz226_4, he, hrow, hRvz226_4⟩ := hR
  replace he := he.symm
  subst he
  refine ⟨[vz226_4, .int .i64 u225.2.At], hrow, fun a hS => ?_⟩
  replace hS := hS.fact (SlF (Rep.int .i64) vz226_4 u225.2.L) (SlR.back (i := 1) rfl hRvz226_4)
  refine wl rfl (ky (v := .agg #[.int .i64 (IntKind.i64.wrap (31 + u221.1)), .string u225.1]) hS (y_build (ps := [(0, .tmp 7), (1, .tmp 10)]) hS pl28 ze28 rfl (us := [[.int .i64 (IntKind.i64.wrap (31 + u221.1))], [.string u225.1]]) ⟨rfl, ⟨rfl, trivial⟩⟩ (ws := [.int .i64 (IntKind.i64.wrap (31 + u221.1)), .string u225.1]) rfl) rfl rfl fun a hS => ?_)
  refine wl rfl (ky (v := .pointer (some ⟨b1, 0, none⟩)) hS (y_move hS rfl) rfl rfl fun a hS => ?_)
  refine wl rfl (k_bslice (ps := [(0, .const (.string ⟨#[]⟩)), (1, .const (.string ⟨#[49]⟩)), (2, .const (.string ⟨#[50, 48, 48]⟩))]) hS el32 ze9 (zl := [.string (ByteArray.mk #[]), .string (ByteArray.mk #[]), .string (ByteArray.mk #[])]) (by kernel_rfl) rfl (us := [[.string (ByteArray.mk #[])], [.string (ByteArray.mk #[49])], [.string (ByteArray.mk #[50, 48, 48])]]) ⟨rfl, ⟨rfl, ⟨rfl, trivial⟩⟩⟩ (ws := [.string (ByteArray.mk #[]), .string (ByteArray.mk #[49]), .string (ByteArray.mk #[50, 48, 48])]) rfl rfl rfl rfl fun b227 a w hk hS => ?_)
  replace hS := hS.lit (R := Rep.str) (us := [.string (ByteArray.mk #[]), .string (ByteArray.mk #[49]), .string (ByteArray.mk #[50, 48, 48])]) (xs := [(ByteArray.mk #[]), (ByteArray.mk #[49]), (ByteArray.mk #[50, 48, 48])]) 0 rfl (by decide) ((RowsOk.one_ (R := Rep.str) (x := (ByteArray.mk #[])) rfl).append ((RowsOk.one_ (R := Rep.str) (x := (ByteArray.mk #[49])) rfl).append (RowsOk.one_ (R := Rep.str) (x := (ByteArray.mk #[50, 48, 48])) rfl))) rfl rfl
  replace hS := hS.freeze (R := Rep.str) 0 rfl 0 rfl
  obtain ⟨u229, hu229, hM⟩ := bd hM
  refine wl rfl (k_callm hS ci60 rfl rfl 1 rfl (dice_Word_c _ _ (hS.drop 1).dlt (DiceD.mk u225.2.L u225.2.At) ([(ByteArray.mk #[]), (ByteArray.mk #[49]), (ByteArray.mk #[50, 48, 48])]) _ _ _ (hS.boxRow 1 rfl) (hS.notin 1 rfl) (SlR.lent (i := 1) rfl (hS.get 2 rfl)) (SlR.lent (i := 1) rfl (hS.get 0 rfl)) _ hu229) fun _ w hR hk => ?_)
  obtain ⟨vz230_4, he, hrow, hRvz230_4⟩ := hR
  replace he := he.symm
  subst he
  refine ⟨[vz230_4, .int .i64 u229.2.At], hrow, fun a hS => ?_⟩
  replace hS := hS.fact (SlF (Rep.int .i64) vz230_4 u229.2.L) (SlR.back (i := 1) rfl hRvz230_4)
  refine wl rfl (ky (v := .pointer (some ⟨b1, 0, none⟩)) hS (y_move hS rfl) rfl rfl fun a hS => ?_)
  obtain ⟨u231, hu231, hM⟩ := bd hM
  refine wl rfl (k_callm hS ci42 rfl rfl 1 rfl (dice_Next_c _ _ (hS.drop 1).dlt (DiceD.mk u229.2.L u229.2.At) 3 _ _ (hS.boxRow 1 rfl) (hS.notin 1 rfl) (SlR.lent (i := 1) rfl (hS.get 0 rfl)) _ hu231) fun _ w hR hk => ?_)
  obtain ⟨vz232_3, he, hrow, hRvz232_3⟩ := hR
  replace he := he.symm
  subst he
  refine ⟨[vz232_3, .int .i64 u231.2.At], hrow, fun a hS => ?_⟩
  replace hS := hS.fact (SlF (Rep.int .i64) vz232_3 u231.2.L) (SlR.back (i := 1) rfl hRvz232_3)
  refine wl rfl (ky (v := .int .i64 (IntKind.i64.wrap (1 + u231.1))) hS (y_int hS rfl rfl rfl) rfl rfl fun a hS => ?_)
  refine wl rfl (ky (v := .pointer (some ⟨b1, 0, none⟩)) hS (y_move hS rfl) rfl rfl fun a hS => ?_)
  obtain ⟨u233, hu233, hM⟩ := bd hM
  refine wl rfl (k_callm hS ci42 rfl rfl 1 rfl (dice_Next_c _ _ (hS.drop 1).dlt (DiceD.mk u231.2.L u231.2.At) 4 _ _ (hS.boxRow 1 rfl) (hS.notin 1 rfl) (SlR.lent (i := 1) rfl (hS.get 0 rfl)) _ hu233) fun _ w hR hk => ?_)
  obtain ⟨vz234_3, he, hrow, hRvz234_3⟩ := hR
  replace he := he.symm
  subst he
  refine ⟨[vz234_3, .int .i64 u233.2.At], hrow, fun a hS => ?_⟩
  replace hS := hS.fact (SlF (Rep.int .i64) vz234_3 u233.2.L) (SlR.back (i := 1) rfl hRvz234_3)
  refine wl rfl (ky (v := .agg #[.int .i64 (IntKind.i64.wrap (31 + u221.1)), .string u225.1, .string u229.1, .slice none 0 0, .int .i64 u233.1, .int .i64 0, .int .i64 (IntKind.i64.wrap (1 + u231.1)), .bool false]) hS (y_build (ps := [(0, .tmp 11), (1, .tmp 14), (5, .tmp 17), (3, .tmp 19)]) hS pl54 ze54 rfl (us := [[.int .i64 (IntKind.i64.wrap (31 + u221.1)), .string u225.1], [.string u229.1], [.int .i64 (IntKind.i64.wrap (1 + u231.1))], [.int .i64 u233.1]]) ⟨rfl, ⟨rfl, ⟨rfl, ⟨rfl, trivial⟩⟩⟩⟩ (ws := [.int .i64 (IntKind.i64.wrap (31 + u221.1)), .string u225.1, .string u229.1, .slice none 0 0, .int .i64 u233.1, .int .i64 0, .int .i64 (IntKind.i64.wrap (1 + u231.1)), .bool false]) rfl) rfl rfl fun a hS => ?_)
  refine wl rfl (k_alloc hS ze54 rfl fun b235 hnb237 a w hk hS => ?_)
  refine wl rfl (k_store hS rfl rfl (us := [.int .i64 (IntKind.i64.wrap (31 + u221.1)), .string u225.1, .string u229.1, .slice none 0 0, .int .i64 u233.1, .int .i64 0, .int .i64 (IntKind.i64.wrap (1 + u231.1)), .bool false]) rfl ty54 0 rfl rfl rfl (oc rfl (oc rfl (oc rfl (oc rfl (oc rfl (oc rfl (oc rfl (oc rfl on)))))))) fun w hk hS => ?_)
  refine wpList_nil ?_
  try simp only [Exit.then, Exit.inBlock, ↓reduceIte, Nat.reduceEqDiff]
  refine hK20 _ _ ?_
  refine wp_seq_k fun K21 hK21 => ?_
  refine draws [(3, .blk (some b1)), (6, .blk (some b235))] hS mixed rfl (fun c a d v w h => by cases d <;> exact h) fun w hQ hS => ?_
  refine dy 0 (v := .pointer (some ⟨b235, 0 + 4, none⟩)) rfl (by kernel_rfl) (by kernel_rfl) (by kernel_rfl) rfl hQ hS (y_fld hS rfl fl54_3) rfl rfl rfl fun a hS => ?_
  refine dy (l := [.blk (some b1)]) 1 (v := .int .i64 u233.1) rfl (by kernel_rfl) (by kernel_rfl) (by kernel_rfl) (by kernel_rfl) hQ hS (y_load hS rfl ty3 0 rfl (eo_ne hS 0 rfl rfl 2 rfl rfl (by decide) eo_nil) (us := [.int .i64 u233.1]) rfl rfl (fun _ => rfl)) rfl rfl rfl fun a hS => ?_
  refine dy 2 (v := .pointer (some ⟨b1, 0, none⟩)) rfl (by kernel_rfl) (by kernel_rfl) (by kernel_rfl) rfl hQ hS (y_move hS rfl) rfl rfl rfl fun a hS => ?_
  obtain ⟨u244, hu244, hM⟩ := bd hM
  refine wpE_one (i := 3) rfl (by kernel_rfl) rfl (k_callm hS ci42 rfl rfl 2 rfl (dice_Next_c _ _ (hS.drop 2).dlt (DiceD.mk u233.2.L u233.2.At) 3 _ _ (hS.boxRow 2 rfl) (hS.notin 2 rfl) (SlR.lent (i := 2) rfl (hS.get 0 rfl)) _ hu244) fun _ w hR hk => ?_)
  obtain ⟨vz245_3, he, hrow, hRvz245_3⟩ := hR
  replace he := he.symm
  subst he
  refine ⟨[vz245_3, .int .i64 u244.2.At], hrow, fun a hS => ⟨stM rfl hk etBox, ?_⟩⟩
  replace hS := hS.fact (SlF (Rep.int .i64) vz245_3 u244.2.L) (SlR.back (i := 2) rfl hRvz245_3)
  refine dy 4 (v := .int .i64 (IntKind.i64.wrap (u233.1 + u244.1))) rfl (by kernel_rfl) (by kernel_rfl) (by kernel_rfl) rfl hQ hS (y_int hS rfl rfl rfl) rfl rfl rfl fun a hS => ?_
  refine dy 5 (v := .pointer (some ⟨b235, 0 + 5, none⟩)) rfl (by kernel_rfl) (by kernel_rfl) (by kernel_rfl) rfl hQ hS (y_fld hS rfl fl54_4) rfl rfl rfl fun a hS => ?_
  refine wpE_one (i := 6) rfl (by kernel_rfl) rfl (k_store hS rfl rfl (us := [.int .i64 (IntKind.i64.wrap (u233.1 + u244.1))]) rfl ty3 0 rfl rfl rfl (oc rfl on) fun w hk hS => ⟨stM rfl hk etBox, ?_⟩)
  refine wpE_done (by kernel_rfl) ?_ _
  try simp only [Exit.then, Exit.inBlock, ↓reduceIte, Nat.reduceEqDiff]
  refine hK21 _ _ ?_
  refine seq_j (J := fun a w => ∃ (r316 : (List KeyD)) (d320 : (List Int)) (d322 : Int) (v317 : Value) (cl318 : (List Value)) (v321 : Value), St W0 (fun k => k = b1) T 42 [(2, .pointer (some ⟨b218, 0, none⟩)), (3, .pointer (some ⟨b235, 0, none⟩))] [.box b218 [.int .i64 0, .string (ByteArray.mk #[]), .string (ByteArray.mk #[]), .slice none 0 0, .int .i64 0, .int .i64 0, .int .i64 0, .bool false] 54, .own v317 28 R_KeyD.size cl318, .box b235 [.int .i64 (IntKind.i64.wrap (31 + u221.1)), .string u225.1, .string u229.1, v317, .int .i64 u233.1, .int .i64 (IntKind.i64.wrap (u233.1 + u244.1)), .int .i64 (IntKind.i64.wrap (1 + u231.1)), .bool false] 54, .box b1 [v321, .int .i64 d322] 98] [RowsF R_KeyD cl318 r316, SlF (Rep.int .i64) v321 d320, LvF] a w ∧ law26_one_j1 u221 u225 u229 u231 u233 u244 r316 d320 d322 = some y) ?_ ?_
  · skip
    refine wp_seq_k fun K30 hK30 => ?_
    refine r_list ?_
    refine wl rfl (ky (v := .pointer (some ⟨b1, 0, none⟩)) hS (y_move hS rfl) rfl rfl fun a hS => ?_)
    obtain ⟨u323, hu323, hM⟩ := bd hM
    refine wl rfl (k_callm hS ci42 rfl rfl 2 rfl (dice_Next_c _ _ (hS.drop 2).dlt (DiceD.mk u244.2.L u244.2.At) 3 _ _ (hS.boxRow 2 rfl) (hS.notin 2 rfl) (SlR.lent (i := 2) rfl (hS.get 0 rfl)) _ hu323) fun _ w hR hk => ?_)
    obtain ⟨vz324_3, he, hrow, hRvz324_3⟩ := hR
    replace he := he.symm
    subst he
    refine ⟨[vz324_3, .int .i64 u323.2.At], hrow, fun a hS => ?_⟩
    replace hS := hS.fact (SlF (Rep.int .i64) vz324_3 u323.2.L) (SlR.back (i := 2) rfl hRvz324_3)
    refine wl rfl (ky (v := .int .i64 u323.1) hS (y_assign hS rfl) rfl rfl fun a hS => ?_)
    refine wpList_nil ?_
    try simp only [Exit.then, Exit.inBlock, ↓reduceIte, Nat.reduceEqDiff]
    refine hK30 _ _ ?_
    refine wp_block ?_
    replace hS := hS.nilRow R_KeyD 28 (by decide)
    obtain ⟨r1, hl1, hMo1⟩ := bd hM
    refine wp_lp (fun s : Int × (List Int) × Int × (List KeyD) => law26_one_l2 s.1 s.2.1 s.2.2.1 s.2.2.2) (fun s a w => ∃ (k356 : Int) (d357 : (List Int)) (d359 : Int) (r360 : (List KeyD)) (v361 : Value) (cl362 : (List Value)) (v358 : Value), (k356, d357, d359, r360) = s ∧ St W0 (fun k => k = b1) T 42 [(0, .pointer (some ⟨b1, 0, none⟩)), (2, .pointer (some ⟨b218, 0, none⟩)), (3, .pointer (some ⟨b235, 0, none⟩)), (4, .int .i64 k356)] [.box b1 [v358, .int .i64 d359] 98, .box b218 [.int .i64 0, .string (ByteArray.mk #[]), .string (ByteArray.mk #[]), .slice none 0 0, .int .i64 0, .int .i64 0, .int .i64 0, .bool false] 54, .own v361 28 R_KeyD.size cl362, .box b235 [.int .i64 (IntKind.i64.wrap (31 + u221.1)), .string u225.1, .string u229.1, v361, .int .i64 u233.1, .int .i64 (IntKind.i64.wrap (u233.1 + u244.1)), .int .i64 (IntKind.i64.wrap (1 + u231.1)), .bool false] 54] [SlF (Rep.int .i64) v358 d357, RowsF R_KeyD cl362 r360, LvF] a w) hl1 ⟨u323.1, u323.2.L, u323.2.At, ([] : List KeyD), (.slice none 0 0), ([]), vz324_3, rfl, (hS.meet [3, 2, 0, 1] (by decide) ⟨rfl, rfl, rfl, rfl, trivial⟩ ⟨rfl, rfl, rfl, rfl, trivial⟩ ⟨⟨1, rfl⟩, ⟨0, rfl⟩, ⟨13, rfl⟩, trivial⟩)⟩ ?_
    rintro s a w f1 ⟨k356, d357, d359, r360, v361, cl362, v358, rfl, hS⟩ hM hf1
    have hM : law26_one_l2 k356 d357 d359 r360 = some f1 := hM
    unfold law26_one_l2 at hM
    refine wp_seq_k fun K37 hK37 => ?_
    refine wp_seq_k fun K38 hK38 => ?_
    refine r_list ?_
    refine wl rfl (ky (v := .int .i64 k356) hS (y_move hS rfl) rfl rfl fun a hS => ?_)
    refine wl rfl (ky (v := .bool (decide ((0 : Int) < k356))) hS (y_int hS rfl rfl rfl) rfl rfl fun a hS => ?_)
    refine wpList_nil ?_
    try simp only [Exit.then, Exit.inBlock, ↓reduceIte, Nat.reduceEqDiff]
    refine hK38 _ _ ?_
    rcases bool2 (decide ((0 : Int) < k356)) with hb394 | hb394
    · replace hM := ct hb394 hM
      refine c_t hS rfl hb394 ?_
      refine wp_skip ?_
      try simp only [Exit.then, Exit.inBlock, ↓reduceIte, Nat.reduceEqDiff]
      refine hK37 _ _ ?_
      refine wp_seq_k fun K39 hK39 => ?_
      refine wp_block ?_
      refine draws [(3, .blk (some b1)), (6, .blk (Value.ownBlock v361)), (8, .blk (some b235))] hS mixed rfl (fun c a d v w h => by cases d <;> exact h) fun w hQ hS => ?_
      refine dy 0 (v := .pointer (some ⟨b235, 0 + 3, none⟩)) rfl (by kernel_rfl) (by kernel_rfl) (by kernel_rfl) rfl hQ hS (y_fld hS rfl fl54_2) rfl rfl rfl fun a hS => ?_
      refine dy (l := [.blk (some b1)]) 1 (v := v361) rfl (by kernel_rfl) (by kernel_rfl) (by kernel_rfl) (by kernel_rfl) hQ hS (y_load hS rfl ty22 3 rfl (eo_ne hS 3 rfl rfl 0 rfl rfl (by decide) eo_nil) (us := [v361]) rfl rfl (fun _ => rfl)) rfl rfl rfl fun a hS => ?_
      refine dy 2 (v := .pointer (some ⟨b1, 0, none⟩)) rfl (by kernel_rfl) (by kernel_rfl) (by kernel_rfl) rfl hQ hS (y_move hS rfl) rfl rfl rfl fun a hS => ?_
      obtain ⟨u405, hu405, hM⟩ := bd hM
      refine wpE_one (i := 3) rfl (by kernel_rfl) rfl (k_callm hS ci42 rfl rfl 0 rfl (dice_Next_c _ _ (hS.drop 0).dlt (DiceD.mk d357 d359) 4 _ _ (hS.boxRow 0 rfl) (hS.notin 0 rfl) (SlR.lent (i := 0) rfl (hS.get 0 rfl)) _ hu405) fun _ w hR hk => ?_)
      obtain ⟨vz406_3, he, hrow, hRvz406_3⟩ := hR
      replace he := he.symm
      subst he
      refine ⟨[vz406_3, .int .i64 u405.2.At], hrow, fun a hS => ⟨stM rfl hk etBox, ?_⟩⟩
      replace hS := hS.fact (SlF (Rep.int .i64) vz406_3 u405.2.L) (SlR.back (i := 0) rfl hRvz406_3)
      obtain ⟨u407, hu407, hM⟩ := bd hM
      refine wpE_one (i := 4) rfl (by kernel_rfl) rfl (k_call hS ci30 rfl rfl (ref23_Cell_c _ _ hS.dlt (hS.get 3 rfl) u405.1 _ hu407) fun _ w hR a hk hA => ⟨stN (hk), ?_⟩)
      have he := Eq.symm hR
      subst he
      have hS := hA [] (fun r hr => by cases hr) List.Pairwise.nil
      refine wpE_one (i := 5) rfl (by kernel_rfl) rfl (k_bslice (ps := [(0, .tmp 37)]) hS el22 ze28 (zl := [.int .i64 0, .string (ByteArray.mk #[])]) (by kernel_rfl) rfl (us := [[.int .i64 u407.Kind, .string u407.Text]]) ⟨rfl, trivial⟩ (ws := [.int .i64 u407.Kind, .string u407.Text]) rfl rfl rfl rfl fun b409 a w hk hS => ⟨stN (hk), ?_⟩)
      replace hS := hS.lit (R := R_KeyD) (us := [.int .i64 u407.Kind, .string u407.Text]) (xs := [u407]) 0 rfl (by decide) (RowsOk.one_ (R := R_KeyD) (x := u407) rfl) rfl rfl
      replace hS := hS.freeze (R := R_KeyD) 0 rfl 0 rfl
      obtain ⟨hg411, hM⟩ := gd_some hM
      refine wpE_one (i := 6) rfl (by kernel_rfl) rfl (k_apps (R := R_KeyD) (xs := r360) (ys := [u407]) hS el22 (by decide) (by decide) rfl rfl 2 rfl 4 rfl 0 rfl hg411 rfl fun v412 cl413 a w hk hS => ⟨stM rfl hk etOwn, ?_⟩)
      refine dy 7 (v := .pointer (some ⟨b235, 0 + 3, none⟩)) rfl (by kernel_rfl) (by kernel_rfl) (by kernel_rfl) rfl hQ hS (y_fld hS rfl fl54_2) rfl rfl rfl fun a hS => ?_
      refine wpE_one (i := 8) rfl (by kernel_rfl) rfl (k_store hS rfl rfl (us := [v412]) (cells1 (own_one (hS.own _ (List.mem_of_getElem? (i := 2) rfl)).1)) ty22 3 rfl rfl rfl (oc (own_one (hS.own _ (List.mem_of_getElem? (i := 2) rfl)).1) on) fun w hk hS => ⟨stM rfl hk etBox, ?_⟩)
      refine wpE_done (by kernel_rfl) ?_ _
      try simp only [Exit.then, Exit.inBlock, ↓reduceIte, Nat.reduceEqDiff]
      refine hK39 _ _ ?_
      refine r_list ?_
      refine wl rfl (ky (v := .int .i64 k356) hS (y_move hS rfl) rfl rfl fun a hS => ?_)
      refine wl rfl (ky (v := .int .i64 (IntKind.i64.wrap (k356 - 1))) hS (y_int hS rfl rfl rfl) rfl rfl fun a hS => ?_)
      refine wl rfl (ky (v := .int .i64 (IntKind.i64.wrap (k356 - 1))) hS (y_assign hS rfl) rfl rfl fun a hS => ?_)
      refine wpList_nil ?_
      try simp only [Exit.then, Exit.inBlock, ↓reduceIte, Nat.reduceEqDiff]
      exact ⟨(IntKind.i64.wrap (k356 - 1), u405.2.L, u405.2.At, (r360 ++ ([u407]))), (Option.some.inj hM).symm, (IntKind.i64.wrap (k356 - 1)), u405.2.L, u405.2.At, (r360 ++ ([u407])), v412, cl413, vz406_3, rfl, (hS.meet [0, 1, 2, 3] (by decide) ⟨rfl, rfl, rfl, rfl, trivial⟩ ⟨rfl, rfl, rfl, rfl, trivial⟩ ⟨⟨3, rfl⟩, ⟨0, rfl⟩, ⟨6, rfl⟩, trivial⟩)⟩
    · replace hM := cf hb394 hM
      refine c_f hS rfl hb394 ?_
      refine wp_exit ?_
      try simp only [Exit.then, Exit.inBlock, ↓reduceIte, Nat.reduceEqDiff]
      injection hM with hM
      subst hM
      have hr := hf1 _ rfl
      subst hr
      have hM : law26_one_j1 u221 u225 u229 u231 u233 u244 r360 d357 d359 = some y := hMo1
      exact ⟨r360, d357, d359, v361, cl362, v358, (hS.meet [1, 2, 3, 0] (by decide) ⟨rfl, rfl, trivial⟩ ⟨rfl, rfl, rfl, rfl, trivial⟩ ⟨⟨1, rfl⟩, ⟨0, rfl⟩, ⟨2, rfl⟩, trivial⟩), hM⟩
  · rintro a w ⟨r316, d320, d322, v317, cl318, v321, hS, hM⟩
    unfold law26_one_j1 at hM
    refine wp_seq_k fun K29 hK29 => ?_
    refine r_list ?_
    refine wl rfl (ky (v := .agg #[.int .i64 (IntKind.i64.wrap (31 + u221.1)), .string u225.1, .string u229.1, v317, .int .i64 u233.1, .int .i64 (IntKind.i64.wrap (u233.1 + u244.1)), .int .i64 (IntKind.i64.wrap (1 + u231.1)), .bool false]) hS (y_load hS rfl ty54 2 rfl id (us := [.int .i64 (IntKind.i64.wrap (31 + u221.1)), .string u225.1, .string u229.1, v317, .int .i64 u233.1, .int .i64 (IntKind.i64.wrap (u233.1 + u244.1)), .int .i64 (IntKind.i64.wrap (1 + u231.1)), .bool false]) rfl rfl (fun h => by cases h)) rfl rfl fun a hS => ?_)
    refine wl rfl (k_store hS rfl rfl (us := [.int .i64 (IntKind.i64.wrap (31 + u221.1)), .string u225.1, .string u229.1, v317, .int .i64 u233.1, .int .i64 (IntKind.i64.wrap (u233.1 + u244.1)), .int .i64 (IntKind.i64.wrap (1 + u231.1)), .bool false]) rfl ty54 0 rfl rfl rfl (oc rfl (oc rfl (oc rfl (oc (own_one (hS.own _ (List.mem_of_getElem? (i := 1) rfl)).1) (oc rfl (oc rfl (oc rfl (oc rfl on)))))))) fun w hk hS => ?_)
    refine wpList_nil ?_
    try simp only [Exit.then, Exit.inBlock, ↓reduceIte, Nat.reduceEqDiff]
    refine hK29 _ _ ?_
    refine wp_ret ?_
    injection hM with hM
    subst hM
    try simp only [Exit.then, Exit.inBlock, ↓reduceIte, Nat.reduceEqDiff]
    refine ret_ok hS Tryd.results36 (res_cell hS rfl 0 rfl ty54 rfl (fun h => by cases h) res_nil) ?_
    exact ⟨v317, cl318, v321, rfl, hS.retOwnm ⟨.inr (List.mem_of_getElem? (i := 1) rfl), ⟨.inr (List.mem_of_getElem? (i := 3) rfl), trivial⟩⟩ 1 rfl 0 rfl 3 rfl (by decide), hS.boxRow 3 rfl, (SlR.up ⟨.inr (List.mem_of_getElem? (i := 1) rfl), ⟨.inr (List.mem_of_getElem? (i := 3) rfl), trivial⟩⟩ (hS.get 1 rfl))⟩

noncomputable def ref23_Cmp (a_0 : KeyD) (b_1 : KeyD) : Option Int := cond (decide ((a_0.Kind : Int) < b_1.Kind)) (some ((-1))) (cond (decide ((b_1.Kind : Int) < a_0.Kind)) (some (1)) ((compareSM a_0.Text b_1.Text).bind fun u19 => some (u19)))
set_option maxRecDepth 100000 in
set_option maxHeartbeats 4000000 in
theorem ref23_Cmp_c (T : Nat → Prop) (W0 : World) (hT : ∀ k, T k → k < W0.heap.size) (hLv : LvP T W0) (a_0 : KeyD) (b_1 : KeyD) (y : Int) (hM : ref23_Cmp a_0 b_1 = some y) : Rets Tryd.prog No 58 [.agg #[.int .i64 a_0.Kind, .string a_0.Text], .agg #[.int .i64 b_1.Kind, .string b_1.Text]] W0 (fun v w' => v = .int .i64 y) := by
  refine enter (c := _) Tryd.func58 rfl T 22 Tryd.ntmps58 hT rfl fun a hS => ?_
  replace hS := hS.fact LvF (LvP.dn hLv)
  unfold ref23_Cmp at hM
  refine wp_seq_k fun K8 hK8 => ?_
  refine r_list ?_
  refine wl rfl (k_box hS rfl (cs := [.int .i64 a_0.Kind, .string a_0.Text]) rfl rfl fun b11 hnb13 a w hk hS => ?_)
  refine wl rfl (k_box hS rfl (cs := [.int .i64 b_1.Kind, .string b_1.Text]) rfl rfl fun b14 hnb16 a w hk hS => ?_)
  refine wl rfl (ky (v := .int .i64 0) hS (y_assign hS rfl) rfl rfl fun a hS => ?_)
  refine wpList_nil ?_
  try simp only [Exit.then, Exit.inBlock, ↓reduceIte, Nat.reduceEqDiff]
  refine hK8 _ _ ?_
  refine wp_seq_k fun K9 hK9 => ?_
  refine wp_block ?_
  refine wp_seq_k fun K10 hK10 => ?_
  refine r_list ?_
  refine wl rfl (ky (v := .pointer (some ⟨b11, 0 + 0, none⟩)) hS (y_fld hS rfl fl28_0) rfl rfl fun a hS => ?_)
  refine wl rfl (ky (v := .int .i64 a_0.Kind) hS (y_load hS rfl ty3 1 rfl id (us := [.int .i64 a_0.Kind]) rfl rfl (fun _ => rfl)) rfl rfl fun a hS => ?_)
  refine wl rfl (ky (v := .pointer (some ⟨b14, 0 + 0, none⟩)) hS (y_fld hS rfl fl28_0) rfl rfl fun a hS => ?_)
  refine wl rfl (ky (v := .int .i64 b_1.Kind) hS (y_load hS rfl ty3 0 rfl id (us := [.int .i64 b_1.Kind]) rfl rfl (fun _ => rfl)) rfl rfl fun a hS => ?_)
  refine wl rfl (ky (v := .bool (decide ((a_0.Kind : Int) < b_1.Kind))) hS (y_int hS rfl rfl rfl) rfl rfl fun a hS => ?_)
  refine wl rfl (ky (v := .bool (decide ((a_0.Kind : Int) < b_1.Kind))) hS (y_assign hS rfl) rfl rfl fun a hS => ?_)
  refine wpList_nil ?_
  try simp only [Exit.then, Exit.inBlock, ↓reduceIte, Nat.reduceEqDiff]
  refine hK10 _ _ ?_
  rcases bool2 (decide ((a_0.Kind : Int) < b_1.Kind)) with hb17 | hb17
  · replace hM := ct hb17 hM
    refine c_t hS rfl hb17 ?_
    refine wp_seq_k fun K11 hK11 => ?_
    refine r_list ?_
    refine wl rfl (ky (v := .int .i64 (-1)) hS (y_assign hS rfl) rfl rfl fun a hS => ?_)
    refine wpList_nil ?_
    try simp only [Exit.then, Exit.inBlock, ↓reduceIte, Nat.reduceEqDiff]
    refine hK11 _ _ ?_
    refine wp_ret ?_
    injection hM with hM
    subst hM
    try simp only [Exit.then, Exit.inBlock, ↓reduceIte, Nat.reduceEqDiff]
    refine ret_ok hS Tryd.results58 (res_tmp hS rfl res_nil) ?_
    exact rfl
  · replace hM := cf hb17 hM
    refine c_f hS rfl hb17 ?_
    refine wp_seq_k fun K12 hK12 => ?_
    refine r_list ?_
    refine wl rfl (ky (v := .pointer (some ⟨b11, 0 + 0, none⟩)) hS (y_fld hS rfl fl28_0) rfl rfl fun a hS => ?_)
    refine wl rfl (ky (v := .int .i64 a_0.Kind) hS (y_load hS rfl ty3 1 rfl id (us := [.int .i64 a_0.Kind]) rfl rfl (fun _ => rfl)) rfl rfl fun a hS => ?_)
    refine wl rfl (ky (v := .pointer (some ⟨b14, 0 + 0, none⟩)) hS (y_fld hS rfl fl28_0) rfl rfl fun a hS => ?_)
    refine wl rfl (ky (v := .int .i64 b_1.Kind) hS (y_load hS rfl ty3 0 rfl id (us := [.int .i64 b_1.Kind]) rfl rfl (fun _ => rfl)) rfl rfl fun a hS => ?_)
    refine wl rfl (ky (v := .bool (decide ((b_1.Kind : Int) < a_0.Kind))) hS (y_int hS rfl rfl rfl) rfl rfl fun a hS => ?_)
    refine wl rfl (ky (v := .bool (decide ((b_1.Kind : Int) < a_0.Kind))) hS (y_assign hS rfl) rfl rfl fun a hS => ?_)
    refine wpList_nil ?_
    try simp only [Exit.then, Exit.inBlock, ↓reduceIte, Nat.reduceEqDiff]
    refine hK12 _ _ ?_
    rcases bool2 (decide ((b_1.Kind : Int) < a_0.Kind)) with hb18 | hb18
    · replace hM := ct hb18 hM
      refine c_t hS rfl hb18 ?_
      refine wp_seq_k fun K13 hK13 => ?_
      refine r_list ?_
      refine wl rfl (ky (v := .int .i64 1) hS (y_assign hS rfl) rfl rfl fun a hS => ?_)
      refine wpList_nil ?_
      try simp only [Exit.then, Exit.inBlock, ↓reduceIte, Nat.reduceEqDiff]
      refine hK13 _ _ ?_
      refine wp_ret ?_
      injection hM with hM
      subst hM
      try simp only [Exit.then, Exit.inBlock, ↓reduceIte, Nat.reduceEqDiff]
      refine ret_ok hS Tryd.results58 (res_tmp hS rfl res_nil) ?_
      exact rfl
    · replace hM := cf hb18 hM
      refine c_f hS rfl hb18 ?_
      refine wp_skip ?_
      try simp only [Exit.then, Exit.inBlock, ↓reduceIte, Nat.reduceEqDiff]
      refine hK9 _ _ ?_
      refine wp_seq_k fun K14 hK14 => ?_
      refine r_list ?_
      refine wl rfl (ky (v := .pointer (some ⟨b11, 0 + 1, none⟩)) hS (y_fld hS rfl fl28_1) rfl rfl fun a hS => ?_)
      refine wl rfl (ky (v := .string a_0.Text) hS (y_load hS rfl ty9 1 rfl id (us := [.string a_0.Text]) rfl rfl (fun _ => rfl)) rfl rfl fun a hS => ?_)
      refine wl rfl (ky (v := .pointer (some ⟨b14, 0 + 1, none⟩)) hS (y_fld hS rfl fl28_1) rfl rfl fun a hS => ?_)
      refine wl rfl (ky (v := .string b_1.Text) hS (y_load hS rfl ty9 0 rfl id (us := [.string b_1.Text]) rfl rfl (fun _ => rfl)) rfl rfl fun a hS => ?_)
      obtain ⟨u19, hu19, hM⟩ := bd hM
      refine wl rfl (k_call hS ci93 rfl rfl (compareSM_c _ _ hS.dlt (hS.get 0 rfl) a_0.Text b_1.Text _ hu19) fun _ w hR a hk hA => ?_)
      have he := Eq.symm hR
      subst he
      have hS := hA [] (fun r hr => by cases hr) List.Pairwise.nil
      refine wl rfl (ky (v := .int .i64 u19) hS (y_assign hS rfl) rfl rfl fun a hS => ?_)
      refine wpList_nil ?_
      try simp only [Exit.then, Exit.inBlock, ↓reduceIte, Nat.reduceEqDiff]
      refine hK14 _ _ ?_
      refine wp_ret ?_
      injection hM with hM
      subst hM
      try simp only [Exit.then, Exit.inBlock, ↓reduceIte, Nat.reduceEqDiff]
      refine ret_ok hS Tryd.results58 (res_tmp hS rfl res_nil) ?_
      exact rfl

noncomputable def ref26_CopyOne (r_0 : RecordD) : Option RecordD := gd (roomB (([] : List KeyD).length + r_0.Reads.length)) <| some ((RecordD.mk r_0.Key r_0.Value (([] : List KeyD) ++ r_0.Reads) r_0.Changed r_0.Verified r_0.Cost r_0.Dirty))
set_option maxRecDepth 100000 in
set_option maxHeartbeats 4000000 in
theorem ref26_CopyOne_c (T : Nat → Prop) (W0 : World) (hT : ∀ k, T k → k < W0.heap.size) (r_0 : RecordD) (v1 : Value) (hv1 : SlR R_KeyD T W0 v1 r_0.Reads) (y : RecordD) (hM : ref26_CopyOne r_0 = some y) : Rets Tryd.prog No 79 [.agg #[.int .i64 r_0.Key.Kind, .string r_0.Key.Text, .string r_0.Value, v1, .int .i64 r_0.Changed, .int .i64 r_0.Verified, .int .i64 r_0.Cost, .bool r_0.Dirty]] W0 (fun v w' => ∃ (v2 : Value) (cl3 : List Value), v = .agg #[.int .i64 y.Key.Kind, .string y.Key.Text, .string y.Value, v2, .int .i64 y.Changed, .int .i64 y.Verified, .int .i64 y.Cost, .bool y.Dirty] ∧ OwnR R_KeyD T W0 w' [.own v2 28 R_KeyD.size cl3] 28 v2 cl3 y.Reads) := by
  refine enter (c := _) Tryd.func79 rfl T 8 Tryd.ntmps79 hT rfl fun a hS => ?_
  replace hS := hS.fact (SlF R_KeyD v1 r_0.Reads) (SlR.dn hv1)
  unfold ref26_CopyOne at hM
  refine wp_seq_k fun K4 hK4 => ?_
  refine r_list ?_
  refine wl rfl (k_box hS rfl (cs := [.int .i64 r_0.Key.Kind, .string r_0.Key.Text, .string r_0.Value, v1, .int .i64 r_0.Changed, .int .i64 r_0.Verified, .int .i64 r_0.Cost, .bool r_0.Dirty]) rfl rfl fun b12 hnb14 a w hk hS => ?_)
  refine wl rfl (k_alloc hS ze54 rfl fun b15 hnb17 a w hk hS => ?_)
  refine wpList_nil ?_
  try simp only [Exit.then, Exit.inBlock, ↓reduceIte, Nat.reduceEqDiff]
  refine hK4 _ _ ?_
  refine wp_seq_k fun K5 hK5 => ?_
  refine r_list ?_
  refine wl rfl (ky (v := .pointer (some ⟨b12, 0 + 3, none⟩)) hS (y_fld hS rfl fl54_2) rfl rfl fun a hS => ?_)
  refine wl rfl (ky (v := v1) hS (y_load hS rfl ty22 1 rfl id (us := [v1]) rfl rfl (fun _ => rfl)) rfl rfl fun a hS => ?_)
  replace hS := hS.nilRow R_KeyD 28 (by decide)
  obtain ⟨hg19, hM⟩ := gd_some hM
  refine wl rfl (k_apps (R := R_KeyD) (xs := ([] : List KeyD)) (ys := r_0.Reads) hS el22 (by decide) (by decide) rfl rfl 0 rfl 0 rfl 1 rfl hg19 rfl fun v20 cl21 a w hk hS => ?_)
  refine wl rfl (ky (v := .pointer (some ⟨b12, 0 + 3, none⟩)) hS (y_fld hS rfl fl54_2) rfl rfl fun a hS => ?_)
  refine wl rfl (k_store hS rfl rfl (us := [v20]) (cells1 (own_one (hS.own _ (List.mem_of_getElem? (i := 0) rfl)).1)) ty22 2 rfl rfl rfl (oc (own_one (hS.own _ (List.mem_of_getElem? (i := 0) rfl)).1) on) fun w hk hS => ?_)
  refine wpList_nil ?_
  try simp only [Exit.then, Exit.inBlock, ↓reduceIte, Nat.reduceEqDiff]
  refine hK5 _ _ ?_
  refine wp_seq_k fun K6 hK6 => ?_
  refine r_list ?_
  refine wl rfl (ky (v := .agg #[.int .i64 r_0.Key.Kind, .string r_0.Key.Text, .string r_0.Value, v20, .int .i64 r_0.Changed, .int .i64 r_0.Verified, .int .i64 r_0.Cost, .bool r_0.Dirty]) hS (y_load hS rfl ty54 2 rfl id (us := [.int .i64 r_0.Key.Kind, .string r_0.Key.Text, .string r_0.Value, v20, .int .i64 r_0.Changed, .int .i64 r_0.Verified, .int .i64 r_0.Cost, .bool r_0.Dirty]) rfl rfl (fun h => by cases h)) rfl rfl fun a hS => ?_)
  refine wl rfl (k_store hS rfl rfl (us := [.int .i64 r_0.Key.Kind, .string r_0.Key.Text, .string r_0.Value, v20, .int .i64 r_0.Changed, .int .i64 r_0.Verified, .int .i64 r_0.Cost, .bool r_0.Dirty]) rfl ty54 1 rfl rfl rfl (oc rfl (oc rfl (oc rfl (oc (own_one (hS.own _ (List.mem_of_getElem? (i := 0) rfl)).1) (oc rfl (oc rfl (oc rfl (oc rfl on)))))))) fun w hk hS => ?_)
  refine wpList_nil ?_
  try simp only [Exit.then, Exit.inBlock, ↓reduceIte, Nat.reduceEqDiff]
  refine hK6 _ _ ?_
  refine wp_ret ?_
  injection hM with hM
  subst hM
  try simp only [Exit.then, Exit.inBlock, ↓reduceIte, Nat.reduceEqDiff]
  refine ret_ok hS Tryd.results79 (res_cell hS rfl 1 rfl ty54 rfl (fun h => by cases h) res_nil) ?_
  exact ⟨v20, cl21, rfl, hS.retOwn ⟨.inr (List.mem_of_getElem? (i := 0) rfl), trivial⟩ 0 rfl 0 rfl⟩

noncomputable def ref26_Put_j1 (out789 : (List RecordD)) : Option (List RecordD) := some (out789)
noncomputable def ref26_Put_j2 (r_1 : RecordD) (out774 : (List RecordD)) (put778 : Bool) : Option (List RecordD) := cond (!(put778)) ((ref26_CopyOne r_1).bind fun u794 => gd (roomB (out774.length + ([u794]).length)) <| ref26_Put_j1 (out774 ++ ([u794]))) (ref26_Put_j1 out774)
noncomputable def ref26_Put_j3 (g918 : Int) (out1089 : (List RecordD)) (put1093 : Bool) : Option (Fl ((List RecordD) × Bool × Int) ((List RecordD) × Bool)) := some (.go (out1089, put1093, IntKind.i64.wrap (g918 + 1)))
noncomputable def ref26_Put_j4 (g918 : Int) (e1094 : RecordD) (u1104 : Int) (out1120 : (List RecordD)) (put1124 : Bool) : Option (Fl ((List RecordD) × Bool × Int) ((List RecordD) × Bool)) := cond ((u1104 : Int) != 0) (gd (roomB (out1120.length + ([e1094]).length)) <| ref26_Put_j3 g918 (out1120 ++ ([e1094])) put1124) (ref26_Put_j3 g918 out1120 put1124)
noncomputable def ref26_Put_j5 (r_1 : RecordD) (out913 : (List RecordD)) (put917 : Bool) (g918 : Int) (e1094 : RecordD) (u1104 : Int) (g1134 : Bool) : Option (Fl ((List RecordD) × Bool × Int) ((List RecordD) × Bool)) := cond g1134 ((ref26_CopyOne r_1).bind fun u1136 => gd (roomB (out913.length + ([u1136]).length)) <| ref26_Put_j4 g918 e1094 u1104 (out913 ++ ([u1136])) true) (ref26_Put_j4 g918 e1094 u1104 out913 put917)
noncomputable def ref26_Put_l6 (l_0 : (List RecordD)) (r_1 : RecordD) (out913 : (List RecordD)) (put917 : Bool) (g918 : Int) : Option (Fl ((List RecordD) × Bool × Int) ((List RecordD) × Bool)) := cond (decide ((g918 : Int) < (l_0.length : Int))) ((getI l_0 g918).bind fun e1094 => (ref23_Cmp e1094.Key r_1.Key).bind fun u1104 => cond (decide ((0 : Int) ≤ u1104)) (ref26_Put_j5 r_1 out913 put917 g918 e1094 u1104 (!(put917))) (ref26_Put_j5 r_1 out913 put917 g918 e1094 u1104 false)) (some (.out (out913, put917)))
noncomputable def ref26_Put (l_0 : (List RecordD)) (r_1 : RecordD) : Option (List RecordD) := (loop (fun s : (List RecordD) × Bool × Int => ref26_Put_l6 l_0 r_1 s.1 s.2.1 s.2.2) (([] : List RecordD), false, 0)).bind fun r => ref26_Put_j2 r_1 r.1 r.2
set_option maxRecDepth 100000 in
set_option maxHeartbeats 4000000 in
theorem ref26_Put_c (T : Nat → Prop) (W0 : World) (hT : ∀ k, T k → k < W0.heap.size) (hLv : LvP T W0) (l_0 : (List RecordD)) (r_1 : RecordD) (v1 : Value) (v2 : Value) (hv1 : SlR R_RecordD T W0 v1 l_0) (hv2 : SlR R_KeyD T W0 v2 r_1.Reads) (y : (List RecordD)) (hM : ref26_Put l_0 r_1 = some y) : Rets Tryd.prog No 39 [v1, .agg #[.int .i64 r_1.Key.Kind, .string r_1.Key.Text, .string r_1.Value, v2, .int .i64 r_1.Changed, .int .i64 r_1.Verified, .int .i64 r_1.Cost, .bool r_1.Dirty]] W0 (fun v w' => ∃ (v3 : Value) (cl4 : List Value), v = v3 ∧ OwnR R_RecordD T W0 w' [.own v3 54 R_RecordD.size cl4] 54 v3 cl4 y) := by
  refine enter (c := _) Tryd.func39 rfl T 47 Tryd.ntmps39 hT rfl fun a hS => ?_
  replace hS := hS.fact LvF (LvP.dn hLv)
  replace hS := hS.fact (SlF R_RecordD v1 l_0) (SlR.dn hv1)
  replace hS := hS.fact (SlF R_KeyD v2 r_1.Reads) (SlR.dn hv2)
  unfold ref26_Put at hM
  refine wp_seq_k fun K49 hK49 => ?_
  refine r_list ?_
  refine wl rfl (k_box hS rfl (cs := [.int .i64 r_1.Key.Kind, .string r_1.Key.Text, .string r_1.Value, v2, .int .i64 r_1.Changed, .int .i64 r_1.Verified, .int .i64 r_1.Cost, .bool r_1.Dirty]) rfl rfl fun b539 hnb541 a w hk hS => ?_)
  refine wl rfl (ky (v := .slice none 0 0) hS (y_assign hS rfl) rfl rfl fun a hS => ?_)
  refine wpList_nil ?_
  try simp only [Exit.then, Exit.inBlock, ↓reduceIte, Nat.reduceEqDiff]
  refine hK49 _ _ ?_
  refine wp_seq_k fun K50 hK50 => ?_
  refine r_list ?_
  refine wl rfl (ky (v := .slice none 0 0) hS (y_assign hS rfl) rfl rfl fun a hS => ?_)
  refine wpList_nil ?_
  try simp only [Exit.then, Exit.inBlock, ↓reduceIte, Nat.reduceEqDiff]
  refine hK50 _ _ ?_
  refine wp_seq_k fun K51 hK51 => ?_
  refine r_list ?_
  refine wl rfl (ky (v := .bool false) hS (y_assign hS rfl) rfl rfl fun a hS => ?_)
  refine wpList_nil ?_
  try simp only [Exit.then, Exit.inBlock, ↓reduceIte, Nat.reduceEqDiff]
  refine hK51 _ _ ?_
  refine seq_j (J := fun a w => ∃ (out774 : (List RecordD)) (put778 : Bool) (v775 : Value) (cl776 : (List Value)), St W0 No T 47 [(3, .pointer (some ⟨b539, 0, none⟩)), (5, v775), (6, .bool put778)] [.own v775 54 R_RecordD.size cl776, .box b539 [.int .i64 r_1.Key.Kind, .string r_1.Key.Text, .string r_1.Value, v2, .int .i64 r_1.Changed, .int .i64 r_1.Verified, .int .i64 r_1.Cost, .bool r_1.Dirty] 54] [RowsF R_RecordD cl776 out774, SlF R_KeyD v2 r_1.Reads, LvF] a w ∧ ref26_Put_j2 r_1 out774 put778 = some y) ?_ ?_
  · skip
    refine wp_seq_k fun K76 hK76 => ?_
    refine r_list ?_
    refine wl rfl (ky (v := v1) hS (y_move hS rfl) rfl rfl fun a hS => ?_)
    refine wl rfl (ky (v := .int .i64 (l_0.length : Int)) hS (y_len (R := R_RecordD) (xs := l_0) hS sl51 rfl 1 rfl) rfl rfl fun a hS => ?_)
    refine wl rfl (ky (v := .int .i64 0) hS (y_move hS rfl) rfl rfl fun a hS => ?_)
    refine wpList_nil ?_
    try simp only [Exit.then, Exit.inBlock, ↓reduceIte, Nat.reduceEqDiff]
    refine hK76 _ _ ?_
    refine wp_block ?_
    replace hS := hS.nilRow R_RecordD 54 (by decide)
    obtain ⟨r1, hl1, hMo1⟩ := bd hM
    refine wp_lp (fun s : (List RecordD) × Bool × Int => ref26_Put_l6 l_0 r_1 s.1 s.2.1 s.2.2) (fun s a w => ∃ (out913 : (List RecordD)) (put917 : Bool) (g918 : Int) (v914 : Value) (cl915 : (List Value)), (out913, put917, g918) = s ∧ St W0 No T 47 [(3, .pointer (some ⟨b539, 0, none⟩)), (5, v914), (6, .bool put917), (10, v1), (11, .int .i64 (l_0.length : Int)), (12, .int .i64 g918)] [.own v914 54 R_RecordD.size cl915, .box b539 [.int .i64 r_1.Key.Kind, .string r_1.Key.Text, .string r_1.Value, v2, .int .i64 r_1.Changed, .int .i64 r_1.Verified, .int .i64 r_1.Cost, .bool r_1.Dirty] 54] [RowsF R_RecordD cl915 out913, SlF R_RecordD v1 l_0, SlF R_KeyD v2 r_1.Reads, LvF] a w) hl1 ⟨([] : List RecordD), false, 0, (.slice none 0 0), ([]), rfl, (hS.meet [0, 1] (by decide) ⟨rfl, rfl, rfl, rfl, rfl, rfl, trivial⟩ ⟨rfl, rfl, trivial⟩ ⟨⟨0, rfl⟩, ⟨2, rfl⟩, ⟨1, rfl⟩, ⟨3, rfl⟩, trivial⟩)⟩ ?_
    rintro s a w f1 ⟨out913, put917, g918, v914, cl915, rfl, hS⟩ hM hf1
    have hM : ref26_Put_l6 l_0 r_1 out913 put917 g918 = some f1 := hM
    unfold ref26_Put_l6 at hM
    refine wp_seq_k fun K97 hK97 => ?_
    refine r_list ?_
    refine wl rfl (ky (v := .bool (decide ((g918 : Int) < (l_0.length : Int)))) hS (y_int hS rfl rfl rfl) rfl rfl fun a hS => ?_)
    refine wpList_nil ?_
    try simp only [Exit.then, Exit.inBlock, ↓reduceIte, Nat.reduceEqDiff]
    refine hK97 _ _ ?_
    refine wp_seq_k fun K98 hK98 => ?_
    rcases bool2 (decide ((g918 : Int) < (l_0.length : Int))) with hb1036 | hb1036
    · replace hM := ct hb1036 hM
      refine c_t hS rfl hb1036 ?_
      refine wp_skip ?_
      try simp only [Exit.then, Exit.inBlock, ↓reduceIte, Nat.reduceEqDiff]
      refine hK98 _ _ ?_
      refine seq_j (J := fun a w => ∃ (out1089 : (List RecordD)) (put1093 : Bool) (v1090 : Value) (cl1091 : (List Value)), St W0 No T 47 [(3, .pointer (some ⟨b539, 0, none⟩)), (5, v1090), (6, .bool put1093), (10, v1), (11, .int .i64 (l_0.length : Int)), (12, .int .i64 g918)] [.own v1090 54 R_RecordD.size cl1091, .box b539 [.int .i64 r_1.Key.Kind, .string r_1.Key.Text, .string r_1.Value, v2, .int .i64 r_1.Changed, .int .i64 r_1.Verified, .int .i64 r_1.Cost, .bool r_1.Dirty] 54] [RowsF R_RecordD cl1091 out1089, SlF R_RecordD v1 l_0, SlF R_KeyD v2 r_1.Reads, LvF] a w ∧ ref26_Put_j3 g918 out1089 put1093 = some f1) ?_ ?_
      · skip
        refine wp_block ?_
        refine wp_seq_k fun K102 hK102 => ?_
        refine r_list ?_
        obtain ⟨e1094, he1094, hM⟩ := bd hM
        refine wl rfl (k_index (R := R_RecordD) hS sl51 ty54 rfl rfl 1 rfl he1094 rfl fun b1096 o1097 cs1099 hr1098 a hS => ?_)
        obtain ⟨v1095, rfl, hv1095⟩ := hr1098
        replace hS := hS.fact (SlF R_KeyD v1095 e1094.Reads) hv1095
        refine wl rfl (ky (v := .agg #[.int .i64 e1094.Key.Kind, .string e1094.Key.Text, .string e1094.Value, v1095, .int .i64 e1094.Changed, .int .i64 e1094.Verified, .int .i64 e1094.Cost, .bool e1094.Dirty]) hS (y_loadc (k := 0) hS ty54 1 rfl rfl (fun _ h => h.elim) (us := [.int .i64 e1094.Key.Kind, .string e1094.Key.Text, .string e1094.Value, v1095, .int .i64 e1094.Changed, .int .i64 e1094.Verified, .int .i64 e1094.Cost, .bool e1094.Dirty]) rfl rfl (fun h => by cases h)) rfl rfl fun a hS => ?_)
        refine wl rfl (k_alloc hS ze54 rfl fun b1101 hnb1103 a w hk hS => ?_)
        refine wl rfl (k_store hS rfl rfl (us := [.int .i64 e1094.Key.Kind, .string e1094.Key.Text, .string e1094.Value, v1095, .int .i64 e1094.Changed, .int .i64 e1094.Verified, .int .i64 e1094.Cost, .bool e1094.Dirty]) rfl ty54 0 rfl rfl rfl (oc rfl (oc rfl (oc rfl (oc (SlR.one ((hS.get 0 rfl) : SlR R_KeyD _ _ _ _)) (oc rfl (oc rfl (oc rfl (oc rfl on)))))))) fun w hk hS => ?_)
        refine wpList_nil ?_
        try simp only [Exit.then, Exit.inBlock, ↓reduceIte, Nat.reduceEqDiff]
        refine hK102 _ _ ?_
        refine wp_seq_k fun K103 hK103 => ?_
        refine r_list ?_
        refine wl rfl (ky (v := .pointer (some ⟨b1101, 0 + 0, none⟩)) hS (y_fld hS rfl fl54_0) rfl rfl fun a hS => ?_)
        refine wl rfl (ky (v := .agg #[.int .i64 e1094.Key.Kind, .string e1094.Key.Text]) hS (y_load hS rfl ty28 0 rfl id (us := [.int .i64 e1094.Key.Kind, .string e1094.Key.Text]) rfl rfl (fun h => by cases h)) rfl rfl fun a hS => ?_)
        refine wl rfl (ky (v := .pointer (some ⟨b539, 0 + 0, none⟩)) hS (y_fld hS rfl fl54_0) rfl rfl fun a hS => ?_)
        refine wl rfl (ky (v := .agg #[.int .i64 r_1.Key.Kind, .string r_1.Key.Text]) hS (y_load hS rfl ty28 2 rfl id (us := [.int .i64 r_1.Key.Kind, .string r_1.Key.Text]) rfl rfl (fun h => by cases h)) rfl rfl fun a hS => ?_)
        obtain ⟨u1104, hu1104, hM⟩ := bd hM
        refine wl rfl (k_call hS ci58 rfl rfl (ref23_Cmp_c _ _ hS.dlt (hS.get 5 rfl) e1094.Key r_1.Key _ hu1104) fun _ w hR a hk hA => ?_)
        have he := Eq.symm hR
        subst he
        have hS := hA [] (fun r hr => by cases hr) List.Pairwise.nil
        refine wl rfl (ky (v := .int .i64 u1104) hS (y_assign hS rfl) rfl rfl fun a hS => ?_)
        refine wpList_nil ?_
        try simp only [Exit.then, Exit.inBlock, ↓reduceIte, Nat.reduceEqDiff]
        refine hK103 _ _ ?_
        refine seq_j (J := fun a w => ∃ (out1120 : (List RecordD)) (put1124 : Bool) (v1121 : Value) (cl1122 : (List Value)), St W0 No T 47 [(3, .pointer (some ⟨b539, 0, none⟩)), (5, v1121), (6, .bool put1124), (8, .pointer (some ⟨b1101, 0, none⟩)), (9, .int .i64 u1104), (10, v1), (11, .int .i64 (l_0.length : Int)), (12, .int .i64 g918)] [.own v1121 54 R_RecordD.size cl1122, .box b539 [.int .i64 r_1.Key.Kind, .string r_1.Key.Text, .string r_1.Value, v2, .int .i64 r_1.Changed, .int .i64 r_1.Verified, .int .i64 r_1.Cost, .bool r_1.Dirty] 54, .box b1101 [.int .i64 e1094.Key.Kind, .string e1094.Key.Text, .string e1094.Value, v1095, .int .i64 e1094.Changed, .int .i64 e1094.Verified, .int .i64 e1094.Cost, .bool e1094.Dirty] 54] [RowsF R_RecordD cl1122 out1120, SlF R_RecordD v1 l_0, SlF R_KeyD v2 r_1.Reads, SlF R_KeyD v1095 e1094.Reads, LvF] a w ∧ ref26_Put_j4 g918 e1094 u1104 out1120 put1124 = some f1) ?_ ?_
        · skip
          refine seq_j (J := fun a w => ∃ (g1134 : Bool), St W0 No T 47 [(3, .pointer (some ⟨b539, 0, none⟩)), (5, v914), (6, .bool put917), (8, .pointer (some ⟨b1101, 0, none⟩)), (9, .int .i64 u1104), (10, v1), (11, .int .i64 (l_0.length : Int)), (12, .int .i64 g918), (26, .bool g1134)] [.own v914 54 R_RecordD.size cl915, .box b539 [.int .i64 r_1.Key.Kind, .string r_1.Key.Text, .string r_1.Value, v2, .int .i64 r_1.Changed, .int .i64 r_1.Verified, .int .i64 r_1.Cost, .bool r_1.Dirty] 54, .box b1101 [.int .i64 e1094.Key.Kind, .string e1094.Key.Text, .string e1094.Value, v1095, .int .i64 e1094.Changed, .int .i64 e1094.Verified, .int .i64 e1094.Cost, .bool e1094.Dirty] 54] [RowsF R_RecordD cl915 out913, SlF R_RecordD v1 l_0, SlF R_KeyD v2 r_1.Reads, SlF R_KeyD v1095 e1094.Reads, LvF] a w ∧ ref26_Put_j5 r_1 out913 put917 g918 e1094 u1104 g1134 = some f1) ?_ ?_
          · skip
            refine r_list ?_
            refine wl rfl (ky (v := .int .i64 u1104) hS (y_move hS rfl) rfl rfl fun a hS => ?_)
            refine wl rfl (ky (v := .bool (decide ((0 : Int) ≤ u1104))) hS (y_int hS rfl rfl rfl) rfl rfl fun a hS => ?_)
            refine wl rfl (ky (v := .bool (decide ((0 : Int) ≤ u1104))) hS (y_move hS rfl) rfl rfl fun a hS => ?_)
            rcases bool2 (decide ((0 : Int) ≤ u1104)) with hb1145 | hb1145
            · replace hM := ct hb1145 hM
              refine wg hS rfl rfl rfl hb1145 (ky (v := .bool put917) hS (y_move hS rfl) rfl rfl fun a hS => ?_)
              refine wg hS rfl rfl rfl hb1145 (ky (v := .bool (!(put917))) hS (y_not hS rfl) rfl rfl fun a hS => ?_)
              refine wl rfl (ky (v := .bool (!(put917))) hS (y_pickt hS rfl hb1145 rfl) rfl rfl fun a hS => ?_)
              refine wpList_nil ?_
              try simp only [Exit.then, Exit.inBlock, ↓reduceIte, Nat.reduceEqDiff]
              exact ⟨(!(put917)), (hS.meet [1, 2, 0] (by decide) ⟨rfl, rfl, rfl, rfl, rfl, rfl, rfl, rfl, rfl, trivial⟩ ⟨rfl, rfl, rfl, trivial⟩ ⟨⟨2, rfl⟩, ⟨3, rfl⟩, ⟨4, rfl⟩, ⟨0, rfl⟩, ⟨5, rfl⟩, trivial⟩), hM⟩
            · replace hM := cf hb1145 hM
              refine wn hS rfl rfl rfl hb1145 rfl rfl fun a hS => ?_
              refine wn hS rfl rfl rfl hb1145 rfl rfl fun a hS => ?_
              refine wl rfl (ky (v := .bool false) hS (y_pickf hS rfl hb1145 rfl) rfl rfl fun a hS => ?_)
              refine wpList_nil ?_
              try simp only [Exit.then, Exit.inBlock, ↓reduceIte, Nat.reduceEqDiff]
              exact ⟨false, (hS.meet [1, 2, 0] (by decide) ⟨rfl, rfl, rfl, rfl, rfl, rfl, rfl, rfl, rfl, trivial⟩ ⟨rfl, rfl, rfl, trivial⟩ ⟨⟨2, rfl⟩, ⟨3, rfl⟩, ⟨4, rfl⟩, ⟨0, rfl⟩, ⟨5, rfl⟩, trivial⟩), hM⟩
          · rintro a w ⟨g1134, hS, hM⟩
            unfold ref26_Put_j5 at hM
            rcases bool2 (g1134) with hb1135 | hb1135
            · replace hM := ct hb1135 hM
              refine c_t hS rfl hb1135 ?_
              refine r_list ?_
              refine wl rfl (ky (v := v914) hS (y_move hS rfl) rfl rfl fun a hS => ?_)
              refine wl rfl (ky (v := .agg #[.int .i64 r_1.Key.Kind, .string r_1.Key.Text, .string r_1.Value, v2, .int .i64 r_1.Changed, .int .i64 r_1.Verified, .int .i64 r_1.Cost, .bool r_1.Dirty]) hS (y_load hS rfl ty54 1 rfl id (us := [.int .i64 r_1.Key.Kind, .string r_1.Key.Text, .string r_1.Value, v2, .int .i64 r_1.Changed, .int .i64 r_1.Verified, .int .i64 r_1.Cost, .bool r_1.Dirty]) rfl rfl (fun h => by cases h)) rfl rfl fun a hS => ?_)
              obtain ⟨u1136, hu1136, hM⟩ := bd hM
              refine wl rfl (k_call hS ci79 rfl rfl (ref26_CopyOne_c _ _ hS.dlt r_1 _ (hS.get 2 rfl) _ hu1136) fun _ w hR a hk hA => ?_)
              obtain ⟨vz1137_2, clz1137_3, he, ⟨hOvz1137_2, hFvz1137_2, hRvz1137_2⟩⟩ := hR
              replace he := he.symm
              subst he
              have hS := hA [.own vz1137_2 28 R_KeyD.size clz1137_3] (adds1 ⟨hOvz1137_2, by decide⟩ hFvz1137_2) (pw1 _)
              replace hS := hS.fact (RowsF R_KeyD clz1137_3 u1136.Reads) (hRvz1137_2.keep (Kt.refl _ _) (dT_dT _))
              refine wl rfl (k_bslice (ps := [(0, .tmp 29)]) hS el51 ze54 (zl := [.int .i64 0, .string (ByteArray.mk #[]), .string (ByteArray.mk #[]), .slice none 0 0, .int .i64 0, .int .i64 0, .int .i64 0, .bool false]) (by kernel_rfl) rfl (us := [[.int .i64 u1136.Key.Kind, .string u1136.Key.Text, .string u1136.Value, vz1137_2, .int .i64 u1136.Changed, .int .i64 u1136.Verified, .int .i64 u1136.Cost, .bool u1136.Dirty]]) ⟨rfl, trivial⟩ (ws := [.int .i64 u1136.Key.Kind, .string u1136.Key.Text, .string u1136.Value, vz1137_2, .int .i64 u1136.Changed, .int .i64 u1136.Verified, .int .i64 u1136.Cost, .bool u1136.Dirty]) rfl rfl rfl rfl fun b1139 a w hk hS => ?_)
              replace hS := hS.freeze (R := R_KeyD) 1 rfl 0 rfl
              replace hS := hS.lit (R := R_RecordD) (us := [.int .i64 u1136.Key.Kind, .string u1136.Key.Text, .string u1136.Value, vz1137_2, .int .i64 u1136.Changed, .int .i64 u1136.Verified, .int .i64 u1136.Cost, .bool u1136.Dirty]) (xs := [u1136]) 0 rfl (by decide) (RowsOk.one_ (R := R_RecordD) (x := u1136) (⟨_, rfl, (hS.get 0 rfl)⟩)) rfl rfl
              replace hS := hS.freeze (R := R_RecordD) 0 rfl 0 rfl
              obtain ⟨hg1141, hM⟩ := gd_some hM
              refine wl rfl (k_apps (R := R_RecordD) (xs := out913) (ys := [u1136]) hS el51 (by decide) (by decide) rfl rfl 0 rfl 4 rfl 0 rfl hg1141 rfl fun v1142 cl1143 a w hk hS => ?_)
              refine wl rfl (ky (v := v1142) hS (y_assign hS rfl) rfl rfl fun a hS => ?_)
              refine wl rfl (ky (v := .bool true) hS (y_assign hS rfl) rfl rfl fun a hS => ?_)
              refine wpList_nil ?_
              try simp only [Exit.then, Exit.inBlock, ↓reduceIte, Nat.reduceEqDiff]
              exact ⟨(out913 ++ ([u1136])), true, v1142, cl1143, (hS.meet [0, 1, 2] (by decide) ⟨rfl, rfl, rfl, rfl, rfl, rfl, rfl, rfl, trivial⟩ ⟨rfl, rfl, rfl, trivial⟩ ⟨⟨0, rfl⟩, ⟨6, rfl⟩, ⟨7, rfl⟩, ⟨8, rfl⟩, ⟨9, rfl⟩, trivial⟩), hM⟩
            · replace hM := cf hb1135 hM
              refine c_f hS rfl hb1135 ?_
              refine wp_skip ?_
              try simp only [Exit.then, Exit.inBlock, ↓reduceIte, Nat.reduceEqDiff]
              exact ⟨out913, put917, v914, cl915, (hS.meet [0, 1, 2] (by decide) ⟨rfl, rfl, rfl, rfl, rfl, rfl, rfl, rfl, trivial⟩ ⟨rfl, rfl, rfl, trivial⟩ ⟨⟨0, rfl⟩, ⟨1, rfl⟩, ⟨2, rfl⟩, ⟨3, rfl⟩, ⟨4, rfl⟩, trivial⟩), hM⟩
        · rintro a w ⟨out1120, put1124, v1121, cl1122, hS, hM⟩
          unfold ref26_Put_j4 at hM
          refine wp_seq_k fun K104 hK104 => ?_
          refine r_list ?_
          refine wl rfl (ky (v := .int .i64 u1104) hS (y_move hS rfl) rfl rfl fun a hS => ?_)
          refine wl rfl (ky (v := .bool ((u1104 : Int) != 0)) hS (y_int hS rfl rfl rfl) rfl rfl fun a hS => ?_)
          refine wpList_nil ?_
          try simp only [Exit.then, Exit.inBlock, ↓reduceIte, Nat.reduceEqDiff]
          refine hK104 _ _ ?_
          rcases bool2 ((u1104 : Int) != 0) with hb1125 | hb1125
          · replace hM := ct hb1125 hM
            refine c_t hS rfl hb1125 ?_
            refine r_list ?_
            refine wl rfl (ky (v := v1121) hS (y_move hS rfl) rfl rfl fun a hS => ?_)
            refine wl rfl (ky (v := .agg #[.int .i64 e1094.Key.Kind, .string e1094.Key.Text, .string e1094.Value, v1095, .int .i64 e1094.Changed, .int .i64 e1094.Verified, .int .i64 e1094.Cost, .bool e1094.Dirty]) hS (y_load hS rfl ty54 2 rfl id (us := [.int .i64 e1094.Key.Kind, .string e1094.Key.Text, .string e1094.Value, v1095, .int .i64 e1094.Changed, .int .i64 e1094.Verified, .int .i64 e1094.Cost, .bool e1094.Dirty]) rfl rfl (fun h => by cases h)) rfl rfl fun a hS => ?_)
            refine wl rfl (k_bslice (ps := [(0, .tmp 35)]) hS el51 ze54 (zl := [.int .i64 0, .string (ByteArray.mk #[]), .string (ByteArray.mk #[]), .slice none 0 0, .int .i64 0, .int .i64 0, .int .i64 0, .bool false]) (by kernel_rfl) rfl (us := [[.int .i64 e1094.Key.Kind, .string e1094.Key.Text, .string e1094.Value, v1095, .int .i64 e1094.Changed, .int .i64 e1094.Verified, .int .i64 e1094.Cost, .bool e1094.Dirty]]) ⟨rfl, trivial⟩ (ws := [.int .i64 e1094.Key.Kind, .string e1094.Key.Text, .string e1094.Value, v1095, .int .i64 e1094.Changed, .int .i64 e1094.Verified, .int .i64 e1094.Cost, .bool e1094.Dirty]) rfl rfl rfl rfl fun b1126 a w hk hS => ?_)
            replace hS := hS.lit (R := R_RecordD) (us := [.int .i64 e1094.Key.Kind, .string e1094.Key.Text, .string e1094.Value, v1095, .int .i64 e1094.Changed, .int .i64 e1094.Verified, .int .i64 e1094.Cost, .bool e1094.Dirty]) (xs := [e1094]) 0 rfl (by decide) (RowsOk.one_ (R := R_RecordD) (x := e1094) (⟨_, rfl, (hS.get 3 rfl)⟩)) rfl rfl
            replace hS := hS.freeze (R := R_RecordD) 0 rfl 0 rfl
            obtain ⟨hg1128, hM⟩ := gd_some hM
            refine wl rfl (k_apps (R := R_RecordD) (xs := out1120) (ys := [e1094]) hS el51 (by decide) (by decide) rfl rfl 0 rfl 2 rfl 0 rfl hg1128 rfl fun v1129 cl1130 a w hk hS => ?_)
            refine wl rfl (ky (v := v1129) hS (y_assign hS rfl) rfl rfl fun a hS => ?_)
            refine wpList_nil ?_
            try simp only [Exit.then, Exit.inBlock, ↓reduceIte, Nat.reduceEqDiff]
            exact ⟨(out1120 ++ ([e1094])), put1124, v1129, cl1130, (hS.meet [0, 1] (by decide) ⟨rfl, rfl, rfl, rfl, rfl, rfl, trivial⟩ ⟨rfl, rfl, trivial⟩ ⟨⟨0, rfl⟩, ⟨4, rfl⟩, ⟨5, rfl⟩, ⟨7, rfl⟩, trivial⟩), hM⟩
          · replace hM := cf hb1125 hM
            refine c_f hS rfl hb1125 ?_
            refine wp_skip ?_
            try simp only [Exit.then, Exit.inBlock, ↓reduceIte, Nat.reduceEqDiff]
            exact ⟨out1120, put1124, v1121, cl1122, (hS.meet [0, 1] (by decide) ⟨rfl, rfl, rfl, rfl, rfl, rfl, trivial⟩ ⟨rfl, rfl, trivial⟩ ⟨⟨0, rfl⟩, ⟨1, rfl⟩, ⟨2, rfl⟩, ⟨4, rfl⟩, trivial⟩), hM⟩
      · rintro a w ⟨out1089, put1093, v1090, cl1091, hS, hM⟩
        unfold ref26_Put_j3 at hM
        refine r_list ?_
        refine wl rfl (ky (v := .int .i64 (IntKind.i64.wrap (g918 + 1))) hS (y_int hS rfl rfl rfl) rfl rfl fun a hS => ?_)
        refine wl rfl (ky (v := .int .i64 (IntKind.i64.wrap (g918 + 1))) hS (y_move hS rfl) rfl rfl fun a hS => ?_)
        refine wpList_nil ?_
        try simp only [Exit.then, Exit.inBlock, ↓reduceIte, Nat.reduceEqDiff]
        exact ⟨(out1089, put1093, IntKind.i64.wrap (g918 + 1)), (Option.some.inj hM).symm, out1089, put1093, (IntKind.i64.wrap (g918 + 1)), v1090, cl1091, rfl, (hS.meet [0, 1] (by decide) ⟨rfl, rfl, rfl, rfl, rfl, rfl, trivial⟩ ⟨rfl, rfl, trivial⟩ ⟨⟨0, rfl⟩, ⟨1, rfl⟩, ⟨2, rfl⟩, ⟨3, rfl⟩, trivial⟩)⟩
    · replace hM := cf hb1036 hM
      refine c_f hS rfl hb1036 ?_
      refine wp_exit ?_
      try simp only [Exit.then, Exit.inBlock, ↓reduceIte, Nat.reduceEqDiff]
      injection hM with hM
      subst hM
      have hr := hf1 _ rfl
      subst hr
      have hM : ref26_Put_j2 r_1 out913 put917 = some y := hMo1
      exact ⟨out913, put917, v914, cl915, (hS.meet [0, 1] (by decide) ⟨rfl, rfl, rfl, trivial⟩ ⟨rfl, rfl, trivial⟩ ⟨⟨0, rfl⟩, ⟨2, rfl⟩, ⟨3, rfl⟩, trivial⟩), hM⟩
  · rintro a w ⟨out774, put778, v775, cl776, hS, hM⟩
    unfold ref26_Put_j2 at hM
    refine seq_j (J := fun a w => ∃ (out789 : (List RecordD)) (v790 : Value) (cl791 : (List Value)), St W0 No T 47 [(5, v790)] [.own v790 54 R_RecordD.size cl791] [RowsF R_RecordD cl791 out789, LvF] a w ∧ ref26_Put_j1 out789 = some y) ?_ ?_
    · skip
      refine wp_seq_k fun K75 hK75 => ?_
      refine r_list ?_
      refine wl rfl (ky (v := .bool put778) hS (y_move hS rfl) rfl rfl fun a hS => ?_)
      refine wl rfl (ky (v := .bool (!(put778))) hS (y_not hS rfl) rfl rfl fun a hS => ?_)
      refine wpList_nil ?_
      try simp only [Exit.then, Exit.inBlock, ↓reduceIte, Nat.reduceEqDiff]
      refine hK75 _ _ ?_
      rcases bool2 (!(put778)) with hb793 | hb793
      · replace hM := ct hb793 hM
        refine c_t hS rfl hb793 ?_
        refine r_list ?_
        refine wl rfl (ky (v := v775) hS (y_move hS rfl) rfl rfl fun a hS => ?_)
        refine wl rfl (ky (v := .agg #[.int .i64 r_1.Key.Kind, .string r_1.Key.Text, .string r_1.Value, v2, .int .i64 r_1.Changed, .int .i64 r_1.Verified, .int .i64 r_1.Cost, .bool r_1.Dirty]) hS (y_load hS rfl ty54 1 rfl id (us := [.int .i64 r_1.Key.Kind, .string r_1.Key.Text, .string r_1.Value, v2, .int .i64 r_1.Changed, .int .i64 r_1.Verified, .int .i64 r_1.Cost, .bool r_1.Dirty]) rfl rfl (fun h => by cases h)) rfl rfl fun a hS => ?_)
        obtain ⟨u794, hu794, hM⟩ := bd hM
        refine wl rfl (k_call hS ci79 rfl rfl (ref26_CopyOne_c _ _ hS.dlt r_1 _ (hS.get 1 rfl) _ hu794) fun _ w hR a hk hA => ?_)
        obtain ⟨vz795_2, clz795_3, he, ⟨hOvz795_2, hFvz795_2, hRvz795_2⟩⟩ := hR
        replace he := he.symm
        subst he
        have hS := hA [.own vz795_2 28 R_KeyD.size clz795_3] (adds1 ⟨hOvz795_2, by decide⟩ hFvz795_2) (pw1 _)
        replace hS := hS.fact (RowsF R_KeyD clz795_3 u794.Reads) (hRvz795_2.keep (Kt.refl _ _) (dT_dT _))
        refine wl rfl (k_bslice (ps := [(0, .tmp 43)]) hS el51 ze54 (zl := [.int .i64 0, .string (ByteArray.mk #[]), .string (ByteArray.mk #[]), .slice none 0 0, .int .i64 0, .int .i64 0, .int .i64 0, .bool false]) (by kernel_rfl) rfl (us := [[.int .i64 u794.Key.Kind, .string u794.Key.Text, .string u794.Value, vz795_2, .int .i64 u794.Changed, .int .i64 u794.Verified, .int .i64 u794.Cost, .bool u794.Dirty]]) ⟨rfl, trivial⟩ (ws := [.int .i64 u794.Key.Kind, .string u794.Key.Text, .string u794.Value, vz795_2, .int .i64 u794.Changed, .int .i64 u794.Verified, .int .i64 u794.Cost, .bool u794.Dirty]) rfl rfl rfl rfl fun b797 a w hk hS => ?_)
        replace hS := hS.freeze (R := R_KeyD) 1 rfl 0 rfl
        replace hS := hS.lit (R := R_RecordD) (us := [.int .i64 u794.Key.Kind, .string u794.Key.Text, .string u794.Value, vz795_2, .int .i64 u794.Changed, .int .i64 u794.Verified, .int .i64 u794.Cost, .bool u794.Dirty]) (xs := [u794]) 0 rfl (by decide) (RowsOk.one_ (R := R_RecordD) (x := u794) (⟨_, rfl, (hS.get 0 rfl)⟩)) rfl rfl
        replace hS := hS.freeze (R := R_RecordD) 0 rfl 0 rfl
        obtain ⟨hg799, hM⟩ := gd_some hM
        refine wl rfl (k_apps (R := R_RecordD) (xs := out774) (ys := [u794]) hS el51 (by decide) (by decide) rfl rfl 0 rfl 4 rfl 0 rfl hg799 rfl fun v800 cl801 a w hk hS => ?_)
        refine wl rfl (ky (v := v800) hS (y_assign hS rfl) rfl rfl fun a hS => ?_)
        refine wpList_nil ?_
        try simp only [Exit.then, Exit.inBlock, ↓reduceIte, Nat.reduceEqDiff]
        exact ⟨(out774 ++ ([u794])), v800, cl801, (hS.meet [0] (by decide) ⟨rfl, trivial⟩ ⟨rfl, trivial⟩ ⟨⟨0, rfl⟩, ⟨7, rfl⟩, trivial⟩), hM⟩
      · replace hM := cf hb793 hM
        refine c_f hS rfl hb793 ?_
        refine wp_skip ?_
        try simp only [Exit.then, Exit.inBlock, ↓reduceIte, Nat.reduceEqDiff]
        exact ⟨out774, v775, cl776, (hS.meet [0] (by decide) ⟨rfl, trivial⟩ ⟨rfl, trivial⟩ ⟨⟨0, rfl⟩, ⟨2, rfl⟩, trivial⟩), hM⟩
    · rintro a w ⟨out789, v790, cl791, hS, hM⟩
      unfold ref26_Put_j1 at hM
      refine wp_seq_k fun K74 hK74 => ?_
      refine r_list ?_
      refine wl rfl (ky (v := v790) hS (y_move hS rfl) rfl rfl fun a hS => ?_)
      refine wl rfl (ky (v := v790) hS (y_assign hS rfl) rfl rfl fun a hS => ?_)
      refine wpList_nil ?_
      try simp only [Exit.then, Exit.inBlock, ↓reduceIte, Nat.reduceEqDiff]
      refine hK74 _ _ ?_
      refine wp_ret ?_
      injection hM with hM
      subst hM
      try simp only [Exit.then, Exit.inBlock, ↓reduceIte, Nat.reduceEqDiff]
      refine ret_ok hS Tryd.results39 (res_tmp hS rfl res_nil) ?_
      exact ⟨v790, cl791, rfl, hS.retOwn ⟨.inr (List.mem_of_getElem? (i := 0) rfl), trivial⟩ 0 rfl 0 rfl⟩

noncomputable def law26_some_j1 (l133 : (List RecordD)) (d137 : (List Int)) (d139 : Int) : Option ((List RecordD) × DiceD) := some ((l133, (DiceD.mk d137 d139)))
noncomputable def law26_some_l2 (l157 : (List RecordD)) (k161 : Int) (d162 : (List Int)) (d164 : Int) : Option (Fl ((List RecordD) × Int × (List Int) × Int) ((List RecordD) × (List Int) × Int)) := cond (decide ((0 : Int) < k161)) ((law26_one (DiceD.mk d162 d164)).bind fun u182 => (ref26_Put l157 (RecordD.mk (KeyD.mk u182.1.Key.Kind u182.1.Key.Text) u182.1.Value u182.1.Reads u182.1.Changed u182.1.Verified u182.1.Cost u182.1.Dirty)).bind fun u185 => some (.go (u185, IntKind.i64.wrap (k161 - 1), u182.2.L, u182.2.At))) (some (.out (l157, d162, d164)))
noncomputable def law26_some (d_0 : DiceD) : Option ((List RecordD) × DiceD) := (dice_Next d_0 7).bind fun u140 => (loop (fun s : (List RecordD) × Int × (List Int) × Int => law26_some_l2 s.1 s.2.1 s.2.2.1 s.2.2.2) (([] : List RecordD), u140.1, u140.2.L, u140.2.At)).bind fun r => law26_some_j1 r.1 r.2.1 r.2.2
set_option maxRecDepth 100000 in
set_option maxHeartbeats 4000000 in
theorem law26_some_c (T : Nat → Prop) (W0 : World) (hT : ∀ k, T k → k < W0.heap.size) (d_0 : DiceD) (v2 : Value) (b1 : Nat) (hb1 : W0.heap[b1]? = some (.cells #[v2, .int .i64 d_0.At] 98 (0, 0))) (hTb1 : ¬ T b1) (hv2 : SlR (Rep.int .i64) (dT T [.box b1 [v2, .int .i64 d_0.At] 98]) W0 v2 d_0.L) (hLv : LvP (dT T [.box b1 [v2, .int .i64 d_0.At] 98]) W0) (y : (List RecordD) × DiceD) (hM : law26_some d_0 = some y) : Rets Tryd.prog (fun k => k = b1) 35 [.pointer (some ⟨b1, 0, none⟩)] W0 (fun v w' => ∃ (v3 : Value) (cl4 : List Value) (v5 : Value), v = v3 ∧ OwnR R_RecordD T W0 w' [.own v3 54 R_RecordD.size cl4, .box b1 [v5, .int .i64 y.2.At] 98] 54 v3 cl4 y.1 ∧ w'.heap[b1]? = some (.cells #[v5, .int .i64 y.2.At] 98 (0, 0)) ∧ SlR (Rep.int .i64) (dT T [.own v3 54 R_RecordD.size cl4, .box b1 [v5, .int .i64 y.2.At] 98]) w' v5 y.2.L) := by
  refine enterm (c := _) Tryd.func35 rfl T 16 Tryd.ntmps35 hT rfl hb1 hTb1 fun a hS => ?_
  replace hS := hS.fact LvF hLv
  replace hS := hS.fact (SlF (Rep.int .i64) v2 d_0.L) hv2
  unfold law26_some at hM
  refine wp_seq_k fun K18 hK18 => ?_
  refine r_list ?_
  refine wl rfl (ky (v := .slice none 0 0) hS (y_assign hS rfl) rfl rfl fun a hS => ?_)
  refine wpList_nil ?_
  try simp only [Exit.then, Exit.inBlock, ↓reduceIte, Nat.reduceEqDiff]
  refine hK18 _ _ ?_
  refine wp_seq_k fun K19 hK19 => ?_
  refine r_list ?_
  refine wl rfl (ky (v := .slice none 0 0) hS (y_assign hS rfl) rfl rfl fun a hS => ?_)
  refine wpList_nil ?_
  try simp only [Exit.then, Exit.inBlock, ↓reduceIte, Nat.reduceEqDiff]
  refine hK19 _ _ ?_
  refine seq_j (J := fun a w => ∃ (l133 : (List RecordD)) (d137 : (List Int)) (d139 : Int) (v134 : Value) (cl135 : (List Value)) (v138 : Value), St W0 (fun k => k = b1) T 16 [(3, v134)] [.own v134 54 R_RecordD.size cl135, .box b1 [v138, .int .i64 d139] 98] [RowsF R_RecordD cl135 l133, SlF (Rep.int .i64) v138 d137, LvF] a w ∧ law26_some_j1 l133 d137 d139 = some y) ?_ ?_
  · skip
    refine wp_seq_k fun K28 hK28 => ?_
    refine r_list ?_
    refine wl rfl (ky (v := .pointer (some ⟨b1, 0, none⟩)) hS (y_move hS rfl) rfl rfl fun a hS => ?_)
    obtain ⟨u140, hu140, hM⟩ := bd hM
    refine wl rfl (k_callm hS ci42 rfl rfl 0 rfl (dice_Next_c _ _ (hS.drop 0).dlt d_0 7 _ _ (hS.boxRow 0 rfl) (hS.notin 0 rfl) (SlR.lent (i := 0) rfl (hS.get 0 rfl)) _ hu140) fun _ w hR hk => ?_)
    obtain ⟨vz141_3, he, hrow, hRvz141_3⟩ := hR
    replace he := he.symm
    subst he
    refine ⟨[vz141_3, .int .i64 u140.2.At], hrow, fun a hS => ?_⟩
    replace hS := hS.fact (SlF (Rep.int .i64) vz141_3 u140.2.L) (SlR.back (i := 0) rfl hRvz141_3)
    refine wl rfl (ky (v := .int .i64 u140.1) hS (y_assign hS rfl) rfl rfl fun a hS => ?_)
    refine wpList_nil ?_
    try simp only [Exit.then, Exit.inBlock, ↓reduceIte, Nat.reduceEqDiff]
    refine hK28 _ _ ?_
    refine wp_block ?_
    replace hS := hS.nilRow R_RecordD 54 (by decide)
    obtain ⟨r1, hl1, hMo1⟩ := bd hM
    refine wp_lp (fun s : (List RecordD) × Int × (List Int) × Int => law26_some_l2 s.1 s.2.1 s.2.2.1 s.2.2.2) (fun s a w => ∃ (l157 : (List RecordD)) (k161 : Int) (d162 : (List Int)) (d164 : Int) (v158 : Value) (cl159 : (List Value)) (v163 : Value), (l157, k161, d162, d164) = s ∧ St W0 (fun k => k = b1) T 16 [(0, .pointer (some ⟨b1, 0, none⟩)), (3, v158), (4, .int .i64 k161)] [.own v158 54 R_RecordD.size cl159, .box b1 [v163, .int .i64 d164] 98] [RowsF R_RecordD cl159 l157, SlF (Rep.int .i64) v163 d162, LvF] a w) hl1 ⟨([] : List RecordD), u140.1, u140.2.L, u140.2.At, (.slice none 0 0), ([]), vz141_3, rfl, (hS.meet [0, 1] (by decide) ⟨rfl, rfl, rfl, trivial⟩ ⟨rfl, rfl, trivial⟩ ⟨⟨0, rfl⟩, ⟨1, rfl⟩, ⟨3, rfl⟩, trivial⟩)⟩ ?_
    rintro s a w f1 ⟨l157, k161, d162, d164, v158, cl159, v163, rfl, hS⟩ hM hf1
    have hM : law26_some_l2 l157 k161 d162 d164 = some f1 := hM
    unfold law26_some_l2 at hM
    refine wp_seq_k fun K35 hK35 => ?_
    refine wp_seq_k fun K36 hK36 => ?_
    refine r_list ?_
    refine wl rfl (ky (v := .int .i64 k161) hS (y_move hS rfl) rfl rfl fun a hS => ?_)
    refine wl rfl (ky (v := .bool (decide ((0 : Int) < k161))) hS (y_int hS rfl rfl rfl) rfl rfl fun a hS => ?_)
    refine wpList_nil ?_
    try simp only [Exit.then, Exit.inBlock, ↓reduceIte, Nat.reduceEqDiff]
    refine hK36 _ _ ?_
    rcases bool2 (decide ((0 : Int) < k161)) with hb181 | hb181
    · replace hM := ct hb181 hM
      refine c_t hS rfl hb181 ?_
      refine wp_skip ?_
      try simp only [Exit.then, Exit.inBlock, ↓reduceIte, Nat.reduceEqDiff]
      refine hK35 _ _ ?_
      refine wp_seq_k fun K37 hK37 => ?_
      refine wp_block ?_
      refine r_list ?_
      refine wl rfl (ky (v := v158) hS (y_move hS rfl) rfl rfl fun a hS => ?_)
      refine wl rfl (ky (v := .pointer (some ⟨b1, 0, none⟩)) hS (y_move hS rfl) rfl rfl fun a hS => ?_)
      obtain ⟨u182, hu182, hM⟩ := bd hM
      refine wl rfl (k_callmr hS ci36 rfl rfl 1 rfl (law26_one_c _ _ (hS.drop 1).dlt (DiceD.mk d162 d164) _ _ (hS.boxRow 1 rfl) (hS.notin 1 rfl) (SlR.lent (i := 1) rfl (hS.get 1 rfl)) (LvF.keep (hS.get 2 rfl) (Kt.refl _ _) (fun k hk => .inl ((dT_in (i := 1) rfl k).1 hk))) _ hu182) fun _ w hR hk => ?_)
      obtain ⟨vz183_3, clz183_4, vz183_5, he, ⟨hOvz183_3, hFvz183_3, hRvz183_3⟩, hrow, hRvz183_5⟩ := hR
      replace he := he.symm
      subst he
      refine ⟨[vz183_5, .int .i64 u182.2.At], [.own vz183_3 28 R_KeyD.size clz183_4], hrow, adds1 ⟨hOvz183_3, by decide⟩ hFvz183_3, pw1 _, fun a hS => ?_⟩
      replace hS := hS.fact (RowsF R_KeyD clz183_4 u182.1.Reads) (hRvz183_3.keep (Kt.refl _ _) (Nw.back2 (i := 1) rfl [.own vz183_3 28 R_KeyD.size clz183_4] _))
      replace hS := hS.fact (SlF (Rep.int .i64) vz183_5 u182.2.L) (hRvz183_5.sub (Nw.back2 (i := 1) rfl [.own vz183_3 28 R_KeyD.size clz183_4] _))
      replace hS := hS.freeze (R := R_RecordD) 1 rfl 2 rfl
      replace hS := hS.freeze (R := R_KeyD) 0 rfl 2 rfl
      obtain ⟨u185, hu185, hM⟩ := bd hM
      refine wl rfl (k_call hS ci39 rfl rfl (ref26_Put_c _ _ hS.dlt (hS.get 6 rfl) l157 (RecordD.mk (KeyD.mk u182.1.Key.Kind u182.1.Key.Text) u182.1.Value u182.1.Reads u182.1.Changed u182.1.Verified u182.1.Cost u182.1.Dirty) _ _ (hS.get 1 rfl) (hS.get 0 rfl) _ hu185) fun _ w hR a hk hA => ?_)
      obtain ⟨vz186_3, clz186_4, he, ⟨hOvz186_3, hFvz186_3, hRvz186_3⟩⟩ := hR
      replace he := he.symm
      subst he
      have hS := hA [.own vz186_3 54 R_RecordD.size clz186_4] (adds1 ⟨hOvz186_3, by decide⟩ hFvz186_3) (pw1 _)
      replace hS := hS.fact (RowsF R_RecordD clz186_4 u185) (hRvz186_3.keep (Kt.refl _ _) (dT_dT _))
      refine wl rfl (ky (v := vz186_3) hS (y_assign hS rfl) rfl rfl fun a hS => ?_)
      refine wpList_nil ?_
      try simp only [Exit.then, Exit.inBlock, ↓reduceIte, Nat.reduceEqDiff]
      refine hK37 _ _ ?_
      refine r_list ?_
      refine wl rfl (ky (v := .int .i64 k161) hS (y_move hS rfl) rfl rfl fun a hS => ?_)
      refine wl rfl (ky (v := .int .i64 (IntKind.i64.wrap (k161 - 1))) hS (y_int hS rfl rfl rfl) rfl rfl fun a hS => ?_)
      refine wl rfl (ky (v := .int .i64 (IntKind.i64.wrap (k161 - 1))) hS (y_assign hS rfl) rfl rfl fun a hS => ?_)
      refine wpList_nil ?_
      try simp only [Exit.then, Exit.inBlock, ↓reduceIte, Nat.reduceEqDiff]
      exact ⟨(u185, IntKind.i64.wrap (k161 - 1), u182.2.L, u182.2.At), (Option.some.inj hM).symm, u185, (IntKind.i64.wrap (k161 - 1)), u182.2.L, u182.2.At, vz186_3, clz186_4, vz183_5, rfl, (hS.meet [0, 1] (by decide) ⟨rfl, rfl, rfl, trivial⟩ ⟨rfl, rfl, trivial⟩ ⟨⟨0, rfl⟩, ⟨3, rfl⟩, ⟨7, rfl⟩, trivial⟩)⟩
    · replace hM := cf hb181 hM
      refine c_f hS rfl hb181 ?_
      refine wp_exit ?_
      try simp only [Exit.then, Exit.inBlock, ↓reduceIte, Nat.reduceEqDiff]
      injection hM with hM
      subst hM
      have hr := hf1 _ rfl
      subst hr
      have hM : law26_some_j1 l157 d162 d164 = some y := hMo1
      exact ⟨l157, d162, d164, v158, cl159, v163, (hS.meet [0, 1] (by decide) ⟨rfl, trivial⟩ ⟨rfl, rfl, trivial⟩ ⟨⟨0, rfl⟩, ⟨1, rfl⟩, ⟨2, rfl⟩, trivial⟩), hM⟩
  · rintro a w ⟨l133, d137, d139, v134, cl135, v138, hS, hM⟩
    unfold law26_some_j1 at hM
    refine wp_seq_k fun K27 hK27 => ?_
    refine r_list ?_
    refine wl rfl (ky (v := v134) hS (y_move hS rfl) rfl rfl fun a hS => ?_)
    refine wl rfl (ky (v := v134) hS (y_assign hS rfl) rfl rfl fun a hS => ?_)
    refine wpList_nil ?_
    try simp only [Exit.then, Exit.inBlock, ↓reduceIte, Nat.reduceEqDiff]
    refine hK27 _ _ ?_
    refine wp_ret ?_
    injection hM with hM
    subst hM
    try simp only [Exit.then, Exit.inBlock, ↓reduceIte, Nat.reduceEqDiff]
    refine ret_ok hS Tryd.results35 (res_tmp hS rfl res_nil) ?_
    exact ⟨v134, cl135, v138, rfl, hS.retOwnm ⟨.inr (List.mem_of_getElem? (i := 0) rfl), ⟨.inr (List.mem_of_getElem? (i := 1) rfl), trivial⟩⟩ 0 rfl 0 rfl 1 rfl (by decide), hS.boxRow 1 rfl, (SlR.up ⟨.inr (List.mem_of_getElem? (i := 0) rfl), ⟨.inr (List.mem_of_getElem? (i := 1) rfl), trivial⟩⟩ (hS.get 1 rfl))⟩

noncomputable def ref26_Same_j1 : Option Bool := some (true)
noncomputable def ref26_Same_l2 (a_0 : (List RecordD)) (b_1 : (List RecordD)) (g279 : Int) : Option (Fl (Int) (Fl (Unit) Bool)) := cond (decide ((g279 : Int) < (a_0.length : Int))) ((getI a_0 g279).bind fun e334 => (getI b_1 g279).bind fun e374 => (ref26_SameOne e334 e374).bind fun u382 => cond (!(u382)) (some (.out (.out false))) (some (.go (IntKind.i64.wrap (g279 + 1))))) (some (.out (.go ())))
noncomputable def ref26_Same (a_0 : (List RecordD)) (b_1 : (List RecordD)) : Option Bool := cond (((a_0.length : Int) : Int) != (b_1.length : Int)) (some (false)) ((loop (fun s : Int => ref26_Same_l2 a_0 b_1 s) 0).bind fun r => Fl.el r (fun s => ref26_Same_j1) (fun y => some (y)))
set_option maxRecDepth 100000 in
set_option maxHeartbeats 4000000 in
theorem ref26_Same_c (T : Nat → Prop) (W0 : World) (hT : ∀ k, T k → k < W0.heap.size) (a_0 : (List RecordD)) (b_1 : (List RecordD)) (v1 : Value) (v2 : Value) (hv1 : SlR R_RecordD T W0 v1 a_0) (hv2 : SlR R_RecordD T W0 v2 b_1) (y : Bool) (hM : ref26_Same a_0 b_1 = some y) : Rets Tryd.prog No 37 [v1, v2] W0 (fun v w' => v = .bool y) := by
  refine enter (c := _) Tryd.func37 rfl T 27 Tryd.ntmps37 hT rfl fun a hS => ?_
  replace hS := hS.fact (SlF R_RecordD v1 a_0) (SlR.dn hv1)
  replace hS := hS.fact (SlF R_RecordD v2 b_1) (SlR.dn hv2)
  unfold ref26_Same at hM
  refine wp_seq_k fun K20 hK20 => ?_
  refine r_list ?_
  refine wl rfl (ky (v := .bool false) hS (y_assign hS rfl) rfl rfl fun a hS => ?_)
  refine wpList_nil ?_
  try simp only [Exit.then, Exit.inBlock, ↓reduceIte, Nat.reduceEqDiff]
  refine hK20 _ _ ?_
  refine wp_seq_k fun K21 hK21 => ?_
  refine wp_seq_k fun K22 hK22 => ?_
  refine r_list ?_
  refine wl rfl (ky (v := v1) hS (y_move hS rfl) rfl rfl fun a hS => ?_)
  refine wl rfl (ky (v := .int .i64 (a_0.length : Int)) hS (y_len (R := R_RecordD) (xs := a_0) hS sl51 rfl 1 rfl) rfl rfl fun a hS => ?_)
  refine wl rfl (ky (v := v2) hS (y_move hS rfl) rfl rfl fun a hS => ?_)
  refine wl rfl (ky (v := .int .i64 (b_1.length : Int)) hS (y_len (R := R_RecordD) (xs := b_1) hS sl51 rfl 0 rfl) rfl rfl fun a hS => ?_)
  refine wl rfl (ky (v := .bool (((a_0.length : Int) : Int) != (b_1.length : Int))) hS (y_int hS rfl rfl rfl) rfl rfl fun a hS => ?_)
  refine wpList_nil ?_
  try simp only [Exit.then, Exit.inBlock, ↓reduceIte, Nat.reduceEqDiff]
  refine hK22 _ _ ?_
  rcases bool2 (((a_0.length : Int) : Int) != (b_1.length : Int)) with hb118 | hb118
  · replace hM := ct hb118 hM
    refine c_t hS rfl hb118 ?_
    refine wp_seq_k fun K23 hK23 => ?_
    refine r_list ?_
    refine wl rfl (ky (v := .bool false) hS (y_assign hS rfl) rfl rfl fun a hS => ?_)
    refine wpList_nil ?_
    try simp only [Exit.then, Exit.inBlock, ↓reduceIte, Nat.reduceEqDiff]
    refine hK23 _ _ ?_
    refine wp_ret ?_
    injection hM with hM
    subst hM
    try simp only [Exit.then, Exit.inBlock, ↓reduceIte, Nat.reduceEqDiff]
    refine ret_ok hS Tryd.results37 (res_tmp hS rfl res_nil) ?_
    exact rfl
  · replace hM := cf hb118 hM
    refine c_f hS rfl hb118 ?_
    refine wp_skip ?_
    try simp only [Exit.then, Exit.inBlock, ↓reduceIte, Nat.reduceEqDiff]
    refine hK21 _ _ ?_
    refine seq_j (J := fun a w => St W0 No T 27 [] [] [] a w ∧ ref26_Same_j1 = some y) ?_ ?_
    · skip
      refine wp_seq_k fun K38 hK38 => ?_
      refine r_list ?_
      refine wl rfl (ky (v := v1) hS (y_move hS rfl) rfl rfl fun a hS => ?_)
      refine wl rfl (ky (v := .int .i64 (a_0.length : Int)) hS (y_len (R := R_RecordD) (xs := a_0) hS sl51 rfl 1 rfl) rfl rfl fun a hS => ?_)
      refine wl rfl (ky (v := .int .i64 0) hS (y_move hS rfl) rfl rfl fun a hS => ?_)
      refine wpList_nil ?_
      try simp only [Exit.then, Exit.inBlock, ↓reduceIte, Nat.reduceEqDiff]
      refine hK38 _ _ ?_
      refine wp_block ?_
      obtain ⟨r1, hl1, hMo1⟩ := bd hM
      refine wp_lp (fun s : Int => ref26_Same_l2 a_0 b_1 s) (fun s a w => ∃ (g279 : Int), g279 = s ∧ St W0 No T 27 [(1, v2), (12, v1), (13, .int .i64 (a_0.length : Int)), (14, .int .i64 g279)] [] [SlF R_RecordD v2 b_1, SlF R_RecordD v1 a_0] a w) hl1 ⟨0, rfl, (hS.meet [] (by decide) ⟨rfl, rfl, rfl, rfl, trivial⟩ trivial ⟨⟨0, rfl⟩, ⟨1, rfl⟩, trivial⟩)⟩ ?_
      rintro s a w f1 ⟨g279, rfl, hS⟩ hM hf1
      have hM : ref26_Same_l2 a_0 b_1 g279 = some f1 := hM
      unfold ref26_Same_l2 at hM
      refine wp_seq_k fun K51 hK51 => ?_
      refine r_list ?_
      refine wl rfl (ky (v := .bool (decide ((g279 : Int) < (a_0.length : Int)))) hS (y_int hS rfl rfl rfl) rfl rfl fun a hS => ?_)
      refine wpList_nil ?_
      try simp only [Exit.then, Exit.inBlock, ↓reduceIte, Nat.reduceEqDiff]
      refine hK51 _ _ ?_
      refine wp_seq_k fun K52 hK52 => ?_
      rcases bool2 (decide ((g279 : Int) < (a_0.length : Int))) with hb333 | hb333
      · replace hM := ct hb333 hM
        refine c_t hS rfl hb333 ?_
        refine wp_skip ?_
        try simp only [Exit.then, Exit.inBlock, ↓reduceIte, Nat.reduceEqDiff]
        refine hK52 _ _ ?_
        refine wp_seq_k fun K53 hK53 => ?_
        refine wp_block ?_
        refine wp_seq_k fun K54 hK54 => ?_
        refine r_list ?_
        refine wl rfl (ky (v := .int .i64 g279) hS (y_move hS rfl) rfl rfl fun a hS => ?_)
        obtain ⟨e334, he334, hM⟩ := bd hM
        refine wl rfl (k_index (R := R_RecordD) hS sl51 ty54 rfl rfl 1 rfl he334 rfl fun b336 o337 cs339 hr338 a hS => ?_)
        obtain ⟨v335, rfl, hv335⟩ := hr338
        replace hS := hS.fact (SlF R_KeyD v335 e334.Reads) hv335
        refine wl rfl (ky (v := .agg #[.int .i64 e334.Key.Kind, .string e334.Key.Text, .string e334.Value, v335, .int .i64 e334.Changed, .int .i64 e334.Verified, .int .i64 e334.Cost, .bool e334.Dirty]) hS (y_loadc (k := 0) hS ty54 1 rfl rfl (fun _ h => h.elim) (us := [.int .i64 e334.Key.Kind, .string e334.Key.Text, .string e334.Value, v335, .int .i64 e334.Changed, .int .i64 e334.Verified, .int .i64 e334.Cost, .bool e334.Dirty]) rfl rfl (fun h => by cases h)) rfl rfl fun a hS => ?_)
        refine wl rfl (k_alloc hS ze54 rfl fun b341 hnb343 a w hk hS => ?_)
        refine wl rfl (ky (v := .int .i64 g279) hS (y_assign hS rfl) rfl rfl fun a hS => ?_)
        refine wl rfl (k_store hS rfl rfl (us := [.int .i64 e334.Key.Kind, .string e334.Key.Text, .string e334.Value, v335, .int .i64 e334.Changed, .int .i64 e334.Verified, .int .i64 e334.Cost, .bool e334.Dirty]) rfl ty54 0 rfl rfl rfl (oc rfl (oc rfl (oc rfl (oc (SlR.one ((hS.get 0 rfl) : SlR R_KeyD _ _ _ _)) (oc rfl (oc rfl (oc rfl (oc rfl on)))))))) fun w hk hS => ?_)
        refine wpList_nil ?_
        try simp only [Exit.then, Exit.inBlock, ↓reduceIte, Nat.reduceEqDiff]
        refine hK54 _ _ ?_
        refine wp_seq_k fun K55 hK55 => ?_
        refine draws [] hS mixed rfl (fun c a d v w h => by cases d <;> exact h) fun w hQ hS => ?_
        refine dy (l := []) 0 (v := .agg #[.int .i64 e334.Key.Kind, .string e334.Key.Text, .string e334.Value, v335, .int .i64 e334.Changed, .int .i64 e334.Verified, .int .i64 e334.Cost, .bool e334.Dirty]) rfl (by kernel_rfl) (by kernel_rfl) (by kernel_rfl) (by kernel_rfl) hQ hS (y_load hS rfl ty54 0 rfl eo_nil (us := [.int .i64 e334.Key.Kind, .string e334.Key.Text, .string e334.Value, v335, .int .i64 e334.Changed, .int .i64 e334.Verified, .int .i64 e334.Cost, .bool e334.Dirty]) rfl rfl (fun h => by cases h)) rfl rfl rfl fun a hS => ?_
        refine dy 1 (v := v2) rfl (by kernel_rfl) (by kernel_rfl) (by kernel_rfl) rfl hQ hS (y_move hS rfl) rfl rfl rfl fun a hS => ?_
        refine dy 2 (v := .int .i64 g279) rfl (by kernel_rfl) (by kernel_rfl) (by kernel_rfl) rfl hQ hS (y_move hS rfl) rfl rfl rfl fun a hS => ?_
        obtain ⟨e374, he374, hM⟩ := bd hM
        obtain ⟨b376, o377, cs379, hr378, hy381, hS⟩ := d_index (R := R_RecordD) hS sl51 ty54 2 rfl he374
        obtain ⟨v375, rfl, hv375⟩ := hr378
        replace hS := hS.fact (SlF R_KeyD v375 e374.Reads) hv375
        refine dy 3 (v := .pointer (some ⟨b376, o377, none⟩)) rfl (by kernel_rfl) (by kernel_rfl) (by kernel_rfl) rfl hQ hS (hy381 rfl rfl) rfl rfl rfl fun a hS => ?_
        refine dy (l := []) 4 (v := .agg #[.int .i64 e374.Key.Kind, .string e374.Key.Text, .string e374.Value, v375, .int .i64 e374.Changed, .int .i64 e374.Verified, .int .i64 e374.Cost, .bool e374.Dirty]) rfl (by kernel_rfl) (by kernel_rfl) (by kernel_rfl) (by kernel_rfl) hQ hS (y_loadc (k := 0) hS ty54 1 rfl rfl es_nil (us := [.int .i64 e374.Key.Kind, .string e374.Key.Text, .string e374.Value, v375, .int .i64 e374.Changed, .int .i64 e374.Verified, .int .i64 e374.Cost, .bool e374.Dirty]) rfl rfl (fun h => by cases h)) rfl rfl rfl fun a hS => ?_
        obtain ⟨u382, hu382, hM⟩ := bd hM
        refine wpE_one (i := 5) rfl (by kernel_rfl) rfl (k_call hS ci45 rfl rfl (ref26_SameOne_c _ _ hS.dlt e334 e374 _ _ (hS.get 2 rfl) (hS.get 0 rfl) _ hu382) fun _ w hR a hk hA => ⟨stN (hk), ?_⟩)
        have he := Eq.symm hR
        subst he
        have hS := hA [] (fun r hr => by cases hr) List.Pairwise.nil
        refine dy 6 (v := .bool (!(u382))) rfl (by kernel_rfl) (by kernel_rfl) (by kernel_rfl) rfl hQ hS (y_not hS rfl) rfl rfl rfl fun a hS => ?_
        refine wpE_done (by kernel_rfl) ?_ _
        try simp only [Exit.then, Exit.inBlock, ↓reduceIte, Nat.reduceEqDiff]
        refine hK55 _ _ ?_
        rcases bool2 (!(u382)) with hb384 | hb384
        · replace hM := ct hb384 hM
          refine c_t hS rfl hb384 ?_
          refine wp_seq_k fun K56 hK56 => ?_
          refine r_list ?_
          refine wl rfl (ky (v := .bool false) hS (y_assign hS rfl) rfl rfl fun a hS => ?_)
          refine wpList_nil ?_
          try simp only [Exit.then, Exit.inBlock, ↓reduceIte, Nat.reduceEqDiff]
          refine hK56 _ _ ?_
          refine wp_ret ?_
          injection hM with hM
          subst hM
          have hr := hf1 _ rfl
          subst hr
          replace hMo1 := el_out hMo1
          have hM := hMo1
          injection hM with hM
          subst hM
          try simp only [Exit.then, Exit.inBlock, ↓reduceIte, Nat.reduceEqDiff]
          refine ret_ok hS Tryd.results37 (res_tmp hS rfl res_nil) ?_
          exact rfl
        · replace hM := cf hb384 hM
          refine c_f hS rfl hb384 ?_
          refine wp_skip ?_
          try simp only [Exit.then, Exit.inBlock, ↓reduceIte, Nat.reduceEqDiff]
          refine hK53 _ _ ?_
          refine r_list ?_
          refine wl rfl (ky (v := .int .i64 (IntKind.i64.wrap (g279 + 1))) hS (y_int hS rfl rfl rfl) rfl rfl fun a hS => ?_)
          refine wl rfl (ky (v := .int .i64 (IntKind.i64.wrap (g279 + 1))) hS (y_move hS rfl) rfl rfl fun a hS => ?_)
          refine wpList_nil ?_
          try simp only [Exit.then, Exit.inBlock, ↓reduceIte, Nat.reduceEqDiff]
          exact ⟨IntKind.i64.wrap (g279 + 1), (Option.some.inj hM).symm, (IntKind.i64.wrap (g279 + 1)), rfl, (hS.meet [] (by decide) ⟨rfl, rfl, rfl, rfl, trivial⟩ trivial ⟨⟨4, rfl⟩, ⟨5, rfl⟩, trivial⟩)⟩
      · replace hM := cf hb333 hM
        refine c_f hS rfl hb333 ?_
        refine wp_exit ?_
        try simp only [Exit.then, Exit.inBlock, ↓reduceIte, Nat.reduceEqDiff]
        injection hM with hM
        subst hM
        have hr := hf1 _ rfl
        subst hr
        replace hMo1 := el_go hMo1
        have hM : ref26_Same_j1 = some y := hMo1
        exact ⟨(hS.meet [] (by decide) trivial trivial trivial), hM⟩
    · rintro a w ⟨hS, hM⟩
      unfold ref26_Same_j1 at hM
      refine wp_seq_k fun K37 hK37 => ?_
      refine r_list ?_
      refine wl rfl (ky (v := .bool true) hS (y_assign hS rfl) rfl rfl fun a hS => ?_)
      refine wpList_nil ?_
      try simp only [Exit.then, Exit.inBlock, ↓reduceIte, Nat.reduceEqDiff]
      refine hK37 _ _ ?_
      refine wp_ret ?_
      injection hM with hM
      subst hM
      try simp only [Exit.then, Exit.inBlock, ↓reduceIte, Nat.reduceEqDiff]
      refine ret_ok hS Tryd.results37 (res_tmp hS rfl res_nil) ?_
      exact rfl

noncomputable def ref26_Drop_j1 (out311 : (List RecordD)) : Option (List RecordD) := some (out311)
noncomputable def ref26_Drop_j2 (g366 : Int) (out430 : (List RecordD)) : Option (Fl ((List RecordD) × Int) ((List RecordD))) := some (.go (out430, IntKind.i64.wrap (g366 + 1)))
noncomputable def ref26_Drop_l3 (l_0 : (List RecordD)) (k_1 : KeyD) (out362 : (List RecordD)) (g366 : Int) : Option (Fl ((List RecordD) × Int) ((List RecordD))) := cond (decide ((g366 : Int) < (l_0.length : Int))) ((getI l_0 g366).bind fun e434 => cond (!((e434.Key.Kind : Int) == k_1.Kind && e434.Key.Text.toList == k_1.Text.toList)) (gd (roomB (out362.length + ([e434]).length)) <| ref26_Drop_j2 g366 (out362 ++ ([e434]))) (ref26_Drop_j2 g366 out362)) (some (.out out362))
noncomputable def ref26_Drop (l_0 : (List RecordD)) (k_1 : KeyD) : Option (List RecordD) := (loop (fun s : (List RecordD) × Int => ref26_Drop_l3 l_0 k_1 s.1 s.2) (([] : List RecordD), 0)).bind fun r => ref26_Drop_j1 r
set_option maxRecDepth 100000 in
set_option maxHeartbeats 4000000 in
theorem ref26_Drop_c (T : Nat → Prop) (W0 : World) (hT : ∀ k, T k → k < W0.heap.size) (l_0 : (List RecordD)) (k_1 : KeyD) (v1 : Value) (hv1 : SlR R_RecordD T W0 v1 l_0) (y : (List RecordD)) (hM : ref26_Drop l_0 k_1 = some y) : Rets Tryd.prog No 41 [v1, .agg #[.int .i64 k_1.Kind, .string k_1.Text]] W0 (fun v w' => ∃ (v2 : Value) (cl3 : List Value), v = v2 ∧ OwnR R_RecordD T W0 w' [.own v2 54 R_RecordD.size cl3] 54 v2 cl3 y) := by
  refine enter (c := _) Tryd.func41 rfl T 24 Tryd.ntmps41 hT rfl fun a hS => ?_
  replace hS := hS.fact (SlF R_RecordD v1 l_0) (SlR.dn hv1)
  unfold ref26_Drop at hM
  refine wp_seq_k fun K30 hK30 => ?_
  refine r_list ?_
  refine wl rfl (k_box hS rfl (cs := [.int .i64 k_1.Kind, .string k_1.Text]) rfl rfl fun b212 hnb214 a w hk hS => ?_)
  refine wl rfl (ky (v := .slice none 0 0) hS (y_assign hS rfl) rfl rfl fun a hS => ?_)
  refine wpList_nil ?_
  try simp only [Exit.then, Exit.inBlock, ↓reduceIte, Nat.reduceEqDiff]
  refine hK30 _ _ ?_
  refine wp_seq_k fun K31 hK31 => ?_
  refine r_list ?_
  refine wl rfl (ky (v := .slice none 0 0) hS (y_assign hS rfl) rfl rfl fun a hS => ?_)
  refine wpList_nil ?_
  try simp only [Exit.then, Exit.inBlock, ↓reduceIte, Nat.reduceEqDiff]
  refine hK31 _ _ ?_
  refine seq_j (J := fun a w => ∃ (out311 : (List RecordD)) (v312 : Value) (cl313 : (List Value)), St W0 No T 24 [(5, v312)] [.own v312 54 R_RecordD.size cl313] [RowsF R_RecordD cl313 out311] a w ∧ ref26_Drop_j1 out311 = some y) ?_ ?_
  · skip
    refine wp_seq_k fun K46 hK46 => ?_
    refine r_list ?_
    refine wl rfl (ky (v := v1) hS (y_move hS rfl) rfl rfl fun a hS => ?_)
    refine wl rfl (ky (v := .int .i64 (l_0.length : Int)) hS (y_len (R := R_RecordD) (xs := l_0) hS sl51 rfl 0 rfl) rfl rfl fun a hS => ?_)
    refine wl rfl (ky (v := .int .i64 0) hS (y_move hS rfl) rfl rfl fun a hS => ?_)
    refine wpList_nil ?_
    try simp only [Exit.then, Exit.inBlock, ↓reduceIte, Nat.reduceEqDiff]
    refine hK46 _ _ ?_
    refine wp_block ?_
    replace hS := hS.nilRow R_RecordD 54 (by decide)
    obtain ⟨r1, hl1, hMo1⟩ := bd hM
    refine wp_lp (fun s : (List RecordD) × Int => ref26_Drop_l3 l_0 k_1 s.1 s.2) (fun s a w => ∃ (out362 : (List RecordD)) (g366 : Int) (v363 : Value) (cl364 : (List Value)), (out362, g366) = s ∧ St W0 No T 24 [(3, .pointer (some ⟨b212, 0, none⟩)), (5, v363), (8, v1), (9, .int .i64 (l_0.length : Int)), (10, .int .i64 g366)] [.own v363 54 R_RecordD.size cl364, .box b212 [.int .i64 k_1.Kind, .string k_1.Text] 28] [RowsF R_RecordD cl364 out362, SlF R_RecordD v1 l_0] a w) hl1 ⟨([] : List RecordD), 0, (.slice none 0 0), ([]), rfl, (hS.meet [0, 1] (by decide) ⟨rfl, rfl, rfl, rfl, rfl, trivial⟩ ⟨rfl, rfl, trivial⟩ ⟨⟨0, rfl⟩, ⟨1, rfl⟩, trivial⟩)⟩ ?_
    rintro s a w f1 ⟨out362, g366, v363, cl364, rfl, hS⟩ hM hf1
    have hM : ref26_Drop_l3 l_0 k_1 out362 g366 = some f1 := hM
    unfold ref26_Drop_l3 at hM
    refine wp_seq_k fun K59 hK59 => ?_
    refine r_list ?_
    refine wl rfl (ky (v := .bool (decide ((g366 : Int) < (l_0.length : Int)))) hS (y_int hS rfl rfl rfl) rfl rfl fun a hS => ?_)
    refine wpList_nil ?_
    try simp only [Exit.then, Exit.inBlock, ↓reduceIte, Nat.reduceEqDiff]
    refine hK59 _ _ ?_
    refine wp_seq_k fun K60 hK60 => ?_
    rcases bool2 (decide ((g366 : Int) < (l_0.length : Int))) with hb412 | hb412
    · replace hM := ct hb412 hM
      refine c_t hS rfl hb412 ?_
      refine wp_skip ?_
      try simp only [Exit.then, Exit.inBlock, ↓reduceIte, Nat.reduceEqDiff]
      refine hK60 _ _ ?_
      refine seq_j (J := fun a w => ∃ (out430 : (List RecordD)) (v431 : Value) (cl432 : (List Value)), St W0 No T 24 [(3, .pointer (some ⟨b212, 0, none⟩)), (5, v431), (8, v1), (9, .int .i64 (l_0.length : Int)), (10, .int .i64 g366)] [.own v431 54 R_RecordD.size cl432, .box b212 [.int .i64 k_1.Kind, .string k_1.Text] 28] [RowsF R_RecordD cl432 out430, SlF R_RecordD v1 l_0] a w ∧ ref26_Drop_j2 g366 out430 = some f1) ?_ ?_
      · skip
        refine wp_block ?_
        refine wp_seq_k fun K63 hK63 => ?_
        refine r_list ?_
        obtain ⟨e434, he434, hM⟩ := bd hM
        refine wl rfl (k_index (R := R_RecordD) hS sl51 ty54 rfl rfl 1 rfl he434 rfl fun b436 o437 cs439 hr438 a hS => ?_)
        obtain ⟨v435, rfl, hv435⟩ := hr438
        replace hS := hS.fact (SlF R_KeyD v435 e434.Reads) hv435
        refine wl rfl (ky (v := .agg #[.int .i64 e434.Key.Kind, .string e434.Key.Text, .string e434.Value, v435, .int .i64 e434.Changed, .int .i64 e434.Verified, .int .i64 e434.Cost, .bool e434.Dirty]) hS (y_loadc (k := 0) hS ty54 1 rfl rfl (fun _ h => h.elim) (us := [.int .i64 e434.Key.Kind, .string e434.Key.Text, .string e434.Value, v435, .int .i64 e434.Changed, .int .i64 e434.Verified, .int .i64 e434.Cost, .bool e434.Dirty]) rfl rfl (fun h => by cases h)) rfl rfl fun a hS => ?_)
        refine wl rfl (k_alloc hS ze54 rfl fun b441 hnb443 a w hk hS => ?_)
        refine wl rfl (k_store hS rfl rfl (us := [.int .i64 e434.Key.Kind, .string e434.Key.Text, .string e434.Value, v435, .int .i64 e434.Changed, .int .i64 e434.Verified, .int .i64 e434.Cost, .bool e434.Dirty]) rfl ty54 0 rfl rfl rfl (oc rfl (oc rfl (oc rfl (oc (SlR.one ((hS.get 0 rfl) : SlR R_KeyD _ _ _ _)) (oc rfl (oc rfl (oc rfl (oc rfl on)))))))) fun w hk hS => ?_)
        refine wpList_nil ?_
        try simp only [Exit.then, Exit.inBlock, ↓reduceIte, Nat.reduceEqDiff]
        refine hK63 _ _ ?_
        refine wp_seq_k fun K64 hK64 => ?_
        refine r_list ?_
        refine wl rfl (ky (v := .pointer (some ⟨b441, 0 + 0, none⟩)) hS (y_fld hS rfl fl54_0) rfl rfl fun a hS => ?_)
        refine wl rfl (ky (v := .agg #[.int .i64 e434.Key.Kind, .string e434.Key.Text]) hS (y_load hS rfl ty28 0 rfl id (us := [.int .i64 e434.Key.Kind, .string e434.Key.Text]) rfl rfl (fun h => by cases h)) rfl rfl fun a hS => ?_)
        refine wl rfl (ky (v := .agg #[.int .i64 k_1.Kind, .string k_1.Text]) hS (y_load hS rfl ty28 2 rfl id (us := [.int .i64 k_1.Kind, .string k_1.Text]) rfl rfl (fun h => by cases h)) rfl rfl fun a hS => ?_)
        refine wl rfl (ky (v := .bool (!((e434.Key.Kind : Int) == k_1.Kind && e434.Key.Text.toList == k_1.Text.toList))) hS (eq28n hS rfl rfl) rfl rfl fun a hS => ?_)
        refine wpList_nil ?_
        try simp only [Exit.then, Exit.inBlock, ↓reduceIte, Nat.reduceEqDiff]
        refine hK64 _ _ ?_
        rcases bool2 (!((e434.Key.Kind : Int) == k_1.Kind && e434.Key.Text.toList == k_1.Text.toList)) with hb444 | hb444
        · replace hM := ct hb444 hM
          refine c_t hS rfl hb444 ?_
          refine r_list ?_
          refine wl rfl (ky (v := v363) hS (y_move hS rfl) rfl rfl fun a hS => ?_)
          refine wl rfl (ky (v := .agg #[.int .i64 e434.Key.Kind, .string e434.Key.Text, .string e434.Value, v435, .int .i64 e434.Changed, .int .i64 e434.Verified, .int .i64 e434.Cost, .bool e434.Dirty]) hS (y_load hS rfl ty54 0 rfl id (us := [.int .i64 e434.Key.Kind, .string e434.Key.Text, .string e434.Value, v435, .int .i64 e434.Changed, .int .i64 e434.Verified, .int .i64 e434.Cost, .bool e434.Dirty]) rfl rfl (fun h => by cases h)) rfl rfl fun a hS => ?_)
          refine wl rfl (k_bslice (ps := [(0, .tmp 19)]) hS el51 ze54 (zl := [.int .i64 0, .string (ByteArray.mk #[]), .string (ByteArray.mk #[]), .slice none 0 0, .int .i64 0, .int .i64 0, .int .i64 0, .bool false]) (by kernel_rfl) rfl (us := [[.int .i64 e434.Key.Kind, .string e434.Key.Text, .string e434.Value, v435, .int .i64 e434.Changed, .int .i64 e434.Verified, .int .i64 e434.Cost, .bool e434.Dirty]]) ⟨rfl, trivial⟩ (ws := [.int .i64 e434.Key.Kind, .string e434.Key.Text, .string e434.Value, v435, .int .i64 e434.Changed, .int .i64 e434.Verified, .int .i64 e434.Cost, .bool e434.Dirty]) rfl rfl rfl rfl fun b445 a w hk hS => ?_)
          replace hS := hS.lit (R := R_RecordD) (us := [.int .i64 e434.Key.Kind, .string e434.Key.Text, .string e434.Value, v435, .int .i64 e434.Changed, .int .i64 e434.Verified, .int .i64 e434.Cost, .bool e434.Dirty]) (xs := [e434]) 0 rfl (by decide) (RowsOk.one_ (R := R_RecordD) (x := e434) (⟨_, rfl, (hS.get 0 rfl)⟩)) rfl rfl
          replace hS := hS.freeze (R := R_RecordD) 0 rfl 0 rfl
          obtain ⟨hg447, hM⟩ := gd_some hM
          refine wl rfl (k_apps (R := R_RecordD) (xs := out362) (ys := [e434]) hS el51 (by decide) (by decide) rfl rfl 1 rfl 4 rfl 0 rfl hg447 rfl fun v448 cl449 a w hk hS => ?_)
          refine wl rfl (ky (v := v448) hS (y_assign hS rfl) rfl rfl fun a hS => ?_)
          refine wpList_nil ?_
          try simp only [Exit.then, Exit.inBlock, ↓reduceIte, Nat.reduceEqDiff]
          exact ⟨(out362 ++ ([e434])), v448, cl449, (hS.meet [1, 2] (by decide) ⟨rfl, rfl, rfl, rfl, rfl, trivial⟩ ⟨rfl, rfl, trivial⟩ ⟨⟨0, rfl⟩, ⟨6, rfl⟩, trivial⟩), hM⟩
        · replace hM := cf hb444 hM
          refine c_f hS rfl hb444 ?_
          refine wp_skip ?_
          try simp only [Exit.then, Exit.inBlock, ↓reduceIte, Nat.reduceEqDiff]
          exact ⟨out362, v363, cl364, (hS.meet [1, 2] (by decide) ⟨rfl, rfl, rfl, rfl, rfl, trivial⟩ ⟨rfl, rfl, trivial⟩ ⟨⟨2, rfl⟩, ⟨3, rfl⟩, trivial⟩), hM⟩
      · rintro a w ⟨out430, v431, cl432, hS, hM⟩
        unfold ref26_Drop_j2 at hM
        refine r_list ?_
        refine wl rfl (ky (v := .int .i64 (IntKind.i64.wrap (g366 + 1))) hS (y_int hS rfl rfl rfl) rfl rfl fun a hS => ?_)
        refine wl rfl (ky (v := .int .i64 (IntKind.i64.wrap (g366 + 1))) hS (y_move hS rfl) rfl rfl fun a hS => ?_)
        refine wpList_nil ?_
        try simp only [Exit.then, Exit.inBlock, ↓reduceIte, Nat.reduceEqDiff]
        exact ⟨(out430, IntKind.i64.wrap (g366 + 1)), (Option.some.inj hM).symm, out430, (IntKind.i64.wrap (g366 + 1)), v431, cl432, rfl, (hS.meet [0, 1] (by decide) ⟨rfl, rfl, rfl, rfl, rfl, trivial⟩ ⟨rfl, rfl, trivial⟩ ⟨⟨0, rfl⟩, ⟨1, rfl⟩, trivial⟩)⟩
    · replace hM := cf hb412 hM
      refine c_f hS rfl hb412 ?_
      refine wp_exit ?_
      try simp only [Exit.then, Exit.inBlock, ↓reduceIte, Nat.reduceEqDiff]
      injection hM with hM
      subst hM
      have hr := hf1 _ rfl
      subst hr
      have hM : ref26_Drop_j1 out362 = some y := hMo1
      exact ⟨out362, v363, cl364, (hS.meet [0] (by decide) ⟨rfl, trivial⟩ ⟨rfl, trivial⟩ ⟨⟨0, rfl⟩, trivial⟩), hM⟩
  · rintro a w ⟨out311, v312, cl313, hS, hM⟩
    unfold ref26_Drop_j1 at hM
    refine wp_seq_k fun K45 hK45 => ?_
    refine r_list ?_
    refine wl rfl (ky (v := v312) hS (y_move hS rfl) rfl rfl fun a hS => ?_)
    refine wl rfl (ky (v := v312) hS (y_assign hS rfl) rfl rfl fun a hS => ?_)
    refine wpList_nil ?_
    try simp only [Exit.then, Exit.inBlock, ↓reduceIte, Nat.reduceEqDiff]
    refine hK45 _ _ ?_
    refine wp_ret ?_
    injection hM with hM
    subst hM
    try simp only [Exit.then, Exit.inBlock, ↓reduceIte, Nat.reduceEqDiff]
    refine ret_ok hS Tryd.results41 (res_tmp hS rfl res_nil) ?_
    exact ⟨v312, cl313, rfl, hS.retOwn ⟨.inr (List.mem_of_getElem? (i := 0) rfl), trivial⟩ 0 rfl 0 rfl⟩
end Go.Proofs.YtjoilbmkcknnfaaDoor
