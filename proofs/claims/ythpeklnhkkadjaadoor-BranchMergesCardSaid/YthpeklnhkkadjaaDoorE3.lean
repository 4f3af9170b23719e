/- What functions of the program compute; that they do. -/
import Derived.Test.YthpeklnhkkadjaaDoorMT
import Derived.Test.YthpeklnhkkadjaaDoorD1
import Derived.Test.YthpeklnhkkadjaaDoorE1
import Derived.Test.YthpeklnhkkadjaaDoorE2
set_option linter.unusedVariables false
set_option linter.unusedSimpArgs false
namespace Go.Proofs.YthpeklnhkkadjaaDoor
open Go.RowKit
noncomputable def ref23_SameList_j1 : Option Bool := some (true)
noncomputable def ref23_SameList_l2 (a_0 : (List KeyD)) (b_1 : (List KeyD)) (g214 : Int) : Option (Fl (Int) (Fl (Unit) Bool)) := cond (decide ((g214 : Int) < (a_0.length : Int))) ((getI a_0 g214).bind fun e256 => (getI b_1 g214).bind fun e286 => cond (!((e286.Kind : Int) == e256.Kind && e286.Text.toList == e256.Text.toList)) (some (.out (.out false))) (some (.go (IntKind.i64.wrap (g214 + 1))))) (some (.out (.go ())))
noncomputable def ref23_SameList (a_0 : (List KeyD)) (b_1 : (List KeyD)) : Option Bool := cond (((a_0.length : Int) : Int) != (b_1.length : Int)) (some (false)) ((loop (fun s : Int => ref23_SameList_l2 a_0 b_1 s) 0).bind fun r => Fl.el r (fun s => ref23_SameList_j1) (fun y => some (y)))
set_option maxRecDepth 100000 in
set_option maxHeartbeats 4000000 in
theorem ref23_SameList_c (T : Nat → Prop) (W0 : World) (hT : ∀ k, T k → k < W0.heap.size) (a_0 : (List KeyD)) (b_1 : (List KeyD)) (v1 : Value) (v2 : Value) (hv1 : SlR R_KeyD T W0 v1 a_0) (hv2 : SlR R_KeyD T W0 v2 b_1) (y : Bool) (hM : ref23_SameList a_0 b_1 = some y) : Rets Tryd.prog No 38 [v1, v2] W0 (fun v w' => v = .bool y) := by
  refine enter (c := _) Tryd.func38 rfl T 26 Tryd.ntmps38 hT rfl fun a hS => ?_
  replace hS := hS.fact (SlF R_KeyD v1 a_0) (SlR.dn hv1)
  replace hS := hS.fact (SlF R_KeyD v2 b_1) (SlR.dn hv2)
  unfold ref23_SameList at hM
  refine wp_seq_k fun K20 hK20 => ?_
  refine r_list ?_
  refine wl rfl (ky (v := .bool false) hS (y_assign hS rfl) rfl rfl fun a hS => ?_)
  refine wpList_nil ?_
  try simp only [Exit.then, Exit.inBlock, ↓reduceIte, Nat.reduceEqDiff]
  refine hK20 _ _ ?_
  refine wp_seq_k fun K21 hK21 => ?_
  refine wp_seq_k fun K22 hK22 => ?_
  refine r_list ?_
  refine wl rfl (ky (v := v1) hS (y_move hS rfl) rfl rfl fun a hS => ?_)
  refine wl rfl (ky (v := .int .i64 (a_0.length : Int)) hS (y_len (R := R_KeyD) (xs := a_0) hS sl22 rfl 1 rfl) rfl rfl fun a hS => ?_)
  refine wl rfl (ky (v := v2) hS (y_move hS rfl) rfl rfl fun a hS => ?_)
  refine wl rfl (ky (v := .int .i64 (b_1.length : Int)) hS (y_len (R := R_KeyD) (xs := b_1) hS sl22 rfl 0 rfl) rfl rfl fun a hS => ?_)
  refine wl rfl (ky (v := .bool (((a_0.length : Int) : Int) != (b_1.length : Int))) hS (y_int hS rfl rfl rfl) rfl rfl fun a hS => ?_)
  refine wpList_nil ?_
  try simp only [Exit.then, Exit.inBlock, ↓reduceIte, Nat.reduceEqDiff]
  refine hK22 _ _ ?_
  rcases bool2 (((a_0.length : Int) : Int) != (b_1.length : Int)) with hb92 | hb92
  · replace hM := ct hb92 hM
    refine c_t hS rfl hb92 ?_
    refine wp_seq_k fun K23 hK23 => ?_
    refine r_list ?_
    refine wl rfl (ky (v := .bool false) hS (y_assign hS rfl) rfl rfl fun a hS => ?_)
    refine wpList_nil ?_
    try simp only [Exit.then, Exit.inBlock, ↓reduceIte, Nat.reduceEqDiff]
    refine hK23 _ _ ?_
    refine wp_ret ?_
    injection hM with hM
    subst hM
    try simp only [Exit.then, Exit.inBlock, ↓reduceIte, Nat.reduceEqDiff]
    refine ret_ok hS Tryd.results38 (res_tmp hS rfl res_nil) ?_
    exact rfl
  · replace hM := cf hb92 hM
    refine c_f hS rfl hb92 ?_
    refine wp_skip ?_
    try simp only [Exit.then, Exit.inBlock, ↓reduceIte, Nat.reduceEqDiff]
    refine hK21 _ _ ?_
    refine seq_j (J := fun a w => St W0 No T 26 [] [] [] a w ∧ ref23_SameList_j1 = some y) ?_ ?_
    · skip
      refine wp_seq_k fun K38 hK38 => ?_
      refine r_list ?_
      refine wl rfl (ky (v := v1) hS (y_move hS rfl) rfl rfl fun a hS => ?_)
      refine wl rfl (ky (v := .int .i64 (a_0.length : Int)) hS (y_len (R := R_KeyD) (xs := a_0) hS sl22 rfl 1 rfl) rfl rfl fun a hS => ?_)
      refine wl rfl (ky (v := .int .i64 0) hS (y_move hS rfl) rfl rfl fun a hS => ?_)
      refine wpList_nil ?_
      try simp only [Exit.then, Exit.inBlock, ↓reduceIte, Nat.reduceEqDiff]
      refine hK38 _ _ ?_
      refine wp_block ?_
      obtain ⟨r1, hl1, hMo1⟩ := bd hM
      refine wp_lp (fun s : Int => ref23_SameList_l2 a_0 b_1 s) (fun s a w => ∃ (g214 : Int), g214 = s ∧ St W0 No T 26 [(1, v2), (12, v1), (13, .int .i64 (a_0.length : Int)), (14, .int .i64 g214)] [] [SlF R_KeyD v2 b_1, SlF R_KeyD v1 a_0] a w) hl1 ⟨0, rfl, (hS.meet [] (by decide) ⟨rfl, rfl, rfl, rfl, trivial⟩ trivial ⟨⟨0, rfl⟩, ⟨1, rfl⟩, trivial⟩)⟩ ?_
      rintro s a w f1 ⟨g214, rfl, hS⟩ hM hf1
      have hM : ref23_SameList_l2 a_0 b_1 g214 = some f1 := hM
      unfold ref23_SameList_l2 at hM
      refine wp_seq_k fun K51 hK51 => ?_
      refine r_list ?_
      refine wl rfl (ky (v := .bool (decide ((g214 : Int) < (a_0.length : Int)))) hS (y_int hS rfl rfl rfl) rfl rfl fun a hS => ?_)
      refine wpList_nil ?_
      try simp only [Exit.then, Exit.inBlock, ↓reduceIte, Nat.reduceEqDiff]
      refine hK51 _ _ ?_
      refine wp_seq_k fun K52 hK52 => ?_
      rcases bool2 (decide ((g214 : Int) < (a_0.length : Int))) with hb255 | hb255
      · replace hM := ct hb255 hM
        refine c_t hS rfl hb255 ?_
        refine wp_skip ?_
        try simp only [Exit.then, Exit.inBlock, ↓reduceIte, Nat.reduceEqDiff]
        refine hK52 _ _ ?_
        refine wp_seq_k fun K53 hK53 => ?_
        refine wp_block ?_
        refine wp_seq_k fun K54 hK54 => ?_
        refine r_list ?_
        refine wl rfl (ky (v := .int .i64 g214) hS (y_move hS rfl) rfl rfl fun a hS => ?_)
        obtain ⟨e256, he256, hM⟩ := bd hM
        refine wl rfl (k_index (R := R_KeyD) hS sl22 ty26 rfl rfl 1 rfl he256 rfl fun b257 o258 cs260 hr259 a hS => ?_)
        obtain rfl := hr259
        refine wl rfl (ky (v := .agg #[.int .i64 e256.Kind, .string e256.Text]) hS (y_loadc (k := 0) hS ty26 0 rfl rfl (fun _ h => h.elim) (us := [.int .i64 e256.Kind, .string e256.Text]) rfl rfl (fun h => by cases h)) rfl rfl fun a hS => ?_)
        refine wl rfl (k_alloc hS ze26 rfl fun b262 hnb264 a w hk hS => ?_)
        refine wl rfl (ky (v := .int .i64 g214) hS (y_assign hS rfl) rfl rfl fun a hS => ?_)
        refine wl rfl (k_store hS rfl rfl (us := [.int .i64 e256.Kind, .string e256.Text]) rfl ty26 0 rfl rfl rfl (oc rfl (oc rfl on)) fun w hk hS => ?_)
        refine wpList_nil ?_
        try simp only [Exit.then, Exit.inBlock, ↓reduceIte, Nat.reduceEqDiff]
        refine hK54 _ _ ?_
        refine wp_seq_k fun K55 hK55 => ?_
        refine draws [] hS mixed rfl (fun c a d v w h => by cases d <;> exact h) fun w hQ hS => ?_
        refine dy 0 (v := v2) rfl (by kernel_rfl) (by kernel_rfl) (by kernel_rfl) rfl hQ hS (y_move hS rfl) rfl rfl rfl fun a hS => ?_
        refine dy 1 (v := .int .i64 g214) rfl (by kernel_rfl) (by kernel_rfl) (by kernel_rfl) rfl hQ hS (y_move hS rfl) rfl rfl rfl fun a hS => ?_
        obtain ⟨e286, he286, hM⟩ := bd hM
        obtain ⟨b287, o288, cs290, hr289, hy292, hS⟩ := d_index (R := R_KeyD) hS sl22 ty26 1 rfl he286
        obtain rfl := hr289
        refine dy 2 (v := .pointer (some ⟨b287, o288, none⟩)) rfl (by kernel_rfl) (by kernel_rfl) (by kernel_rfl) rfl hQ hS (hy292 rfl rfl) rfl rfl rfl fun a hS => ?_
        refine dy (l := []) 3 (v := .agg #[.int .i64 e286.Kind, .string e286.Text]) rfl (by kernel_rfl) (by kernel_rfl) (by kernel_rfl) (by kernel_rfl) hQ hS (y_loadc (k := 0) hS ty26 0 rfl rfl es_nil (us := [.int .i64 e286.Kind, .string e286.Text]) rfl rfl (fun h => by cases h)) rfl rfl rfl fun a hS => ?_
        refine dy (l := []) 4 (v := .agg #[.int .i64 e256.Kind, .string e256.Text]) rfl (by kernel_rfl) (by kernel_rfl) (by kernel_rfl) (by kernel_rfl) hQ hS (y_load hS rfl ty26 0 rfl eo_nil (us := [.int .i64 e256.Kind, .string e256.Text]) rfl rfl (fun h => by cases h)) rfl rfl rfl fun a hS => ?_
        refine dy 5 (v := .bool (!((e286.Kind : Int) == e256.Kind && e286.Text.toList == e256.Text.toList))) rfl (by kernel_rfl) (by kernel_rfl) (by kernel_rfl) rfl hQ hS (eq26n hS rfl rfl) rfl rfl rfl fun a hS => ?_
        refine wpE_done (by kernel_rfl) ?_ _
        try simp only [Exit.then, Exit.inBlock, ↓reduceIte, Nat.reduceEqDiff]
        refine hK55 _ _ ?_
        rcases bool2 (!((e286.Kind : Int) == e256.Kind && e286.Text.toList == e256.Text.toList)) with hb293 | hb293
        · replace hM := ct hb293 hM
          refine c_t hS rfl hb293 ?_
          refine wp_seq_k fun K56 hK56 => ?_
          refine r_list ?_
          refine wl rfl (ky (v := .bool false) hS (y_assign hS rfl) rfl rfl fun a hS => ?_)
          refine wpList_nil ?_
          try simp only [Exit.then, Exit.inBlock, ↓reduceIte, Nat.reduceEqDiff]
          refine hK56 _ _ ?_
          refine wp_ret ?_
          injection hM with hM
          subst hM
          have hr := hf1 _ rfl
          subst hr
          replace hMo1 := el_out hMo1
          have hM := hMo1
          injection hM with hM
          subst hM
          try simp only [Exit.then, Exit.inBlock, ↓reduceIte, Nat.reduceEqDiff]
          refine ret_ok hS Tryd.results38 (res_tmp hS rfl res_nil) ?_
          exact rfl
        · replace hM := cf hb293 hM
          refine c_f hS rfl hb293 ?_
          refine wp_skip ?_
          try simp only [Exit.then, Exit.inBlock, ↓reduceIte, Nat.reduceEqDiff]
          refine hK53 _ _ ?_
          refine r_list ?_
          refine wl rfl (ky (v := .int .i64 (IntKind.i64.wrap (g214 + 1))) hS (y_int hS rfl rfl rfl) rfl rfl fun a hS => ?_)
          refine wl rfl (ky (v := .int .i64 (IntKind.i64.wrap (g214 + 1))) hS (y_move hS rfl) rfl rfl fun a hS => ?_)
          refine wpList_nil ?_
          try simp only [Exit.then, Exit.inBlock, ↓reduceIte, Nat.reduceEqDiff]
          exact ⟨IntKind.i64.wrap (g214 + 1), (Option.some.inj hM).symm, (IntKind.i64.wrap (g214 + 1)), rfl, (hS.meet [] (by decide) ⟨rfl, rfl, rfl, rfl, trivial⟩ trivial ⟨⟨2, rfl⟩, ⟨3, rfl⟩, trivial⟩)⟩
      · replace hM := cf hb255 hM
        refine c_f hS rfl hb255 ?_
        refine wp_exit ?_
        try simp only [Exit.then, Exit.inBlock, ↓reduceIte, Nat.reduceEqDiff]
        injection hM with hM
        subst hM
        have hr := hf1 _ rfl
        subst hr
        replace hMo1 := el_go hMo1
        have hM : ref23_SameList_j1 = some y := hMo1
        exact ⟨(hS.meet [] (by decide) trivial trivial trivial), hM⟩
    · rintro a w ⟨hS, hM⟩
      unfold ref23_SameList_j1 at hM
      refine wp_seq_k fun K37 hK37 => ?_
      refine r_list ?_
      refine wl rfl (ky (v := .bool true) hS (y_assign hS rfl) rfl rfl fun a hS => ?_)
      refine wpList_nil ?_
      try simp only [Exit.then, Exit.inBlock, ↓reduceIte, Nat.reduceEqDiff]
      refine hK37 _ _ ?_
      refine wp_ret ?_
      injection hM with hM
      subst hM
      try simp only [Exit.then, Exit.inBlock, ↓reduceIte, Nat.reduceEqDiff]
      refine ret_ok hS Tryd.results38 (res_tmp hS rfl res_nil) ?_
      exact rfl

noncomputable def ref23_Has_j1 : Option Bool := some (false)
noncomputable def ref23_Has_l2 (l_0 : (List KeyD)) (k_1 : KeyD) (g58 : Int) (g59 : Int) (k60 : Int) : Option (Fl (Int × Int × Int) (Fl (Unit) Bool)) := cond (decide ((g59 : Int) < g58)) ((getI l_0 g59).bind fun e76 => cond ((e76.Kind : Int) == k60 && e76.Text.toList == k_1.Text.toList) (some (.out (.out true))) (some (.go (g58, IntKind.i64.wrap (g59 + 1), k60)))) (some (.out (.go ())))
noncomputable def ref23_Has (l_0 : (List KeyD)) (k_1 : KeyD) : Option Bool := (loop (fun s : Int × Int × Int => ref23_Has_l2 l_0 k_1 s.1 s.2.1 s.2.2) ((l_0.length : Int), 0, k_1.Kind)).bind fun r => Fl.el r (fun s => ref23_Has_j1) (fun y => some (y))
set_option maxRecDepth 100000 in
set_option maxHeartbeats 4000000 in
theorem ref23_Has_c (T : Nat → Prop) (W0 : World) (hT : ∀ k, T k → k < W0.heap.size) (l_0 : (List KeyD)) (k_1 : KeyD) (v1 : Value) (hv1 : SlR R_KeyD T W0 v1 l_0) (y : Bool) (hM : ref23_Has l_0 k_1 = some y) : Rets Tryd.prog No 42 [v1, .agg #[.int .i64 k_1.Kind, .string k_1.Text]] W0 (fun v w' => v = .bool y) := by
  refine enter (c := _) Tryd.func42 rfl T 17 Tryd.ntmps42 hT rfl fun a hS => ?_
  replace hS := hS.fact (SlF R_KeyD v1 l_0) (SlR.dn hv1)
  unfold ref23_Has at hM
  refine wp_seq_k fun K17 hK17 => ?_
  refine r_list ?_
  refine wl rfl (k_box hS rfl (cs := [.int .i64 k_1.Kind, .string k_1.Text]) rfl rfl fun b38 hnb40 a w hk hS => ?_)
  refine wl rfl (ky (v := .bool false) hS (y_assign hS rfl) rfl rfl fun a hS => ?_)
  refine wpList_nil ?_
  try simp only [Exit.then, Exit.inBlock, ↓reduceIte, Nat.reduceEqDiff]
  refine hK17 _ _ ?_
  refine seq_j (J := fun a w => St W0 No T 17 [] [] [] a w ∧ ref23_Has_j1 = some y) ?_ ?_
  · skip
    refine wp_seq_k fun K26 hK26 => ?_
    refine r_list ?_
    refine wl rfl (ky (v := v1) hS (y_move hS rfl) rfl rfl fun a hS => ?_)
    refine wl rfl (ky (v := .int .i64 (l_0.length : Int)) hS (y_len (R := R_KeyD) (xs := l_0) hS sl22 rfl 0 rfl) rfl rfl fun a hS => ?_)
    refine wl rfl (ky (v := .int .i64 0) hS (y_move hS rfl) rfl rfl fun a hS => ?_)
    refine wpList_nil ?_
    try simp only [Exit.then, Exit.inBlock, ↓reduceIte, Nat.reduceEqDiff]
    refine hK26 _ _ ?_
    refine wp_block ?_
    obtain ⟨r1, hl1, hMo1⟩ := bd hM
    refine wp_lp (fun s : Int × Int × Int => ref23_Has_l2 l_0 k_1 s.1 s.2.1 s.2.2) (fun s a w => ∃ (g58 : Int) (g59 : Int) (k60 : Int), (g58, g59, k60) = s ∧ St W0 No T 17 [(3, .pointer (some ⟨b38, 0, none⟩)), (7, v1), (8, .int .i64 g58), (9, .int .i64 g59)] [.box b38 [.int .i64 k60, .string k_1.Text] 26] [SlF R_KeyD v1 l_0] a w) hl1 ⟨(l_0.length : Int), 0, k_1.Kind, rfl, (hS.meet [0] (by decide) ⟨rfl, rfl, rfl, rfl, trivial⟩ ⟨rfl, trivial⟩ ⟨⟨0, rfl⟩, trivial⟩)⟩ ?_
    rintro s a w f1 ⟨g58, g59, k60, rfl, hS⟩ hM hf1
    have hM : ref23_Has_l2 l_0 k_1 g58 g59 k60 = some f1 := hM
    unfold ref23_Has_l2 at hM
    refine wp_seq_k fun K33 hK33 => ?_
    refine r_list ?_
    refine wl rfl (ky (v := .bool (decide ((g59 : Int) < g58))) hS (y_int hS rfl rfl rfl) rfl rfl fun a hS => ?_)
    refine wpList_nil ?_
    try simp only [Exit.then, Exit.inBlock, ↓reduceIte, Nat.reduceEqDiff]
    refine hK33 _ _ ?_
    refine wp_seq_k fun K34 hK34 => ?_
    rcases bool2 (decide ((g59 : Int) < g58)) with hb75 | hb75
    · replace hM := ct hb75 hM
      refine c_t hS rfl hb75 ?_
      refine wp_skip ?_
      try simp only [Exit.then, Exit.inBlock, ↓reduceIte, Nat.reduceEqDiff]
      refine hK34 _ _ ?_
      refine wp_seq_k fun K35 hK35 => ?_
      refine wp_block ?_
      refine wp_seq_k fun K36 hK36 => ?_
      refine r_list ?_
      obtain ⟨e76, he76, hM⟩ := bd hM
      refine wl rfl (k_index (R := R_KeyD) hS sl22 ty26 rfl rfl 0 rfl he76 rfl fun b77 o78 cs80 hr79 a hS => ?_)
      obtain rfl := hr79
      refine wl rfl (ky (v := .agg #[.int .i64 e76.Kind, .string e76.Text]) hS (y_loadc (k := 0) hS ty26 0 rfl rfl (fun _ h => h.elim) (us := [.int .i64 e76.Kind, .string e76.Text]) rfl rfl (fun h => by cases h)) rfl rfl fun a hS => ?_)
      refine wl rfl (k_alloc hS ze26 rfl fun b82 hnb84 a w hk hS => ?_)
      refine wl rfl (k_store hS rfl rfl (us := [.int .i64 e76.Kind, .string e76.Text]) rfl ty26 0 rfl rfl rfl (oc rfl (oc rfl on)) fun w hk hS => ?_)
      refine wpList_nil ?_
      try simp only [Exit.then, Exit.inBlock, ↓reduceIte, Nat.reduceEqDiff]
      refine hK36 _ _ ?_
      refine wp_seq_k fun K37 hK37 => ?_
      refine r_list ?_
      refine wl rfl (ky (v := .agg #[.int .i64 e76.Kind, .string e76.Text]) hS (y_load hS rfl ty26 0 rfl id (us := [.int .i64 e76.Kind, .string e76.Text]) rfl rfl (fun h => by cases h)) rfl rfl fun a hS => ?_)
      refine wl rfl (ky (v := .agg #[.int .i64 k60, .string k_1.Text]) hS (y_load hS rfl ty26 1 rfl id (us := [.int .i64 k60, .string k_1.Text]) rfl rfl (fun h => by cases h)) rfl rfl fun a hS => ?_)
      refine wl rfl (ky (v := .bool ((e76.Kind : Int) == k60 && e76.Text.toList == k_1.Text.toList)) hS (eq26 hS rfl rfl) rfl rfl fun a hS => ?_)
      refine wpList_nil ?_
      try simp only [Exit.then, Exit.inBlock, ↓reduceIte, Nat.reduceEqDiff]
      refine hK37 _ _ ?_
      rcases bool2 ((e76.Kind : Int) == k60 && e76.Text.toList == k_1.Text.toList) with hb85 | hb85
      · replace hM := ct hb85 hM
        refine c_t hS rfl hb85 ?_
        refine wp_seq_k fun K38 hK38 => ?_
        refine r_list ?_
        refine wl rfl (ky (v := .bool true) hS (y_assign hS rfl) rfl rfl fun a hS => ?_)
        refine wpList_nil ?_
        try simp only [Exit.then, Exit.inBlock, ↓reduceIte, Nat.reduceEqDiff]
        refine hK38 _ _ ?_
        refine wp_ret ?_
        injection hM with hM
        subst hM
        have hr := hf1 _ rfl
        subst hr
        replace hMo1 := el_out hMo1
        have hM := hMo1
        injection hM with hM
        subst hM
        try simp only [Exit.then, Exit.inBlock, ↓reduceIte, Nat.reduceEqDiff]
        refine ret_ok hS Tryd.results42 (res_tmp hS rfl res_nil) ?_
        exact rfl
      · replace hM := cf hb85 hM
        refine c_f hS rfl hb85 ?_
        refine wp_skip ?_
        try simp only [Exit.then, Exit.inBlock, ↓reduceIte, Nat.reduceEqDiff]
        refine hK35 _ _ ?_
        refine r_list ?_
        refine wl rfl (ky (v := .int .i64 (IntKind.i64.wrap (g59 + 1))) hS (y_int hS rfl rfl rfl) rfl rfl fun a hS => ?_)
        refine wl rfl (ky (v := .int .i64 (IntKind.i64.wrap (g59 + 1))) hS (y_move hS rfl) rfl rfl fun a hS => ?_)
        refine wpList_nil ?_
        try simp only [Exit.then, Exit.inBlock, ↓reduceIte, Nat.reduceEqDiff]
        exact ⟨(g58, IntKind.i64.wrap (g59 + 1), k60), (Option.some.inj hM).symm, g58, (IntKind.i64.wrap (g59 + 1)), k60, rfl, (hS.meet [1] (by decide) ⟨rfl, rfl, rfl, rfl, trivial⟩ ⟨rfl, trivial⟩ ⟨⟨1, rfl⟩, trivial⟩)⟩
    · replace hM := cf hb75 hM
      refine c_f hS rfl hb75 ?_
      refine wp_exit ?_
      try simp only [Exit.then, Exit.inBlock, ↓reduceIte, Nat.reduceEqDiff]
      injection hM with hM
      subst hM
      have hr := hf1 _ rfl
      subst hr
      replace hMo1 := el_go hMo1
      have hM : ref23_Has_j1 = some y := hMo1
      exact ⟨(hS.meet [] (by decide) trivial trivial trivial), hM⟩
  · rintro a w ⟨hS, hM⟩
    unfold ref23_Has_j1 at hM
    refine wp_seq_k fun K25 hK25 => ?_
    refine r_list ?_
    refine wl rfl (ky (v := .bool false) hS (y_assign hS rfl) rfl rfl fun a hS => ?_)
    refine wpList_nil ?_
    try simp only [Exit.then, Exit.inBlock, ↓reduceIte, Nat.reduceEqDiff]
    refine hK25 _ _ ?_
    refine wp_ret ?_
    injection hM with hM
    subst hM
    try simp only [Exit.then, Exit.inBlock, ↓reduceIte, Nat.reduceEqDiff]
    refine ret_ok hS Tryd.results42 (res_tmp hS rfl res_nil) ?_
    exact rfl

noncomputable def law39_BranchMerges_j1 (g3187 : Bool) : Option Bool := some (g3187)
noncomputable def law39_BranchMerges_j2 (u2105 : ((List ChangeD) × DiceD)) (u2108 : ((List ChangeD) × DiceD)) : Option Bool := (branch_Merge u2105.1 u2108.1 u2105.1).bind fun u3159 => (branch_Merge u2105.1 u2105.1 u2108.1).bind fun u3163 => cond ((u3159.2.2 : Int) == 0) (cond ((u3163.2.2 : Int) == 0) ((ref39_Same u3159.1 u2108.1).bind fun u3190 => cond u3190 ((ref39_Same u3163.1 u2108.1).bind fun u3193 => cond u3193 ((law39_awake).bind fun u3196 => law39_BranchMerges_j1 u3196) (law39_BranchMerges_j1 false)) (law39_BranchMerges_j1 false)) (law39_BranchMerges_j1 false)) (law39_BranchMerges_j1 false)
noncomputable def law39_BranchMerges_j3 (g3356 : Int) : Option (Fl (Int) (Fl (Unit) Bool)) := some (.go (IntKind.i64.wrap (g3356 + 1)))
noncomputable def law39_BranchMerges_j4 (u2114 : ((List ChangeD) × (List KeyD) × Int)) (get2839 : (List (KeyD × ByteArray))) (g3356 : Int) (u3594 : KeyD) (clash3651 : Bool) (want3653 : ByteArray) : Option (Fl (Int) (Fl (Unit) Bool)) := (ref23_Has u2114.2.1 u3594).bind fun u3661 => cond (clash3651 != u3661) (some (.out (.out false))) ((some ((mget keq_KeyD u3594 get2839).getD (ByteArray.mk #[]))).bind fun u3664 => cond (!(u3664.toList == want3653.toList)) (some (.out (.out false))) (law39_BranchMerges_j3 g3356))
noncomputable def law39_BranchMerges_j5 (u2114 : ((List ChangeD) × (List KeyD) × Int)) (get2839 : (List (KeyD × ByteArray))) (g3356 : Int) (u3594 : KeyD) (u3635 : ByteArray) (u3639 : ByteArray) (u3643 : ByteArray) (clash3651 : Bool) : Option (Fl (Int) (Fl (Unit) Bool)) := cond (u3635.toList == u3639.toList) (law39_BranchMerges_j4 u2114 get2839 g3356 u3594 clash3651 u3643) (law39_BranchMerges_j4 u2114 get2839 g3356 u3594 clash3651 u3639)
noncomputable def law39_BranchMerges_l6 (u2114 : ((List ChangeD) × (List KeyD) × Int)) (get2830 : (List (KeyD × ByteArray))) (get2833 : (List (KeyD × ByteArray))) (get2836 : (List (KeyD × ByteArray))) (get2839 : (List (KeyD × ByteArray))) (g3356 : Int) : Option (Fl (Int) (Fl (Unit) Bool)) := cond (decide ((g3356 : Int) < 6)) ((ref23_Cell g3356).bind fun u3594 => (some ((mget keq_KeyD u3594 get2830).getD (ByteArray.mk #[]))).bind fun u3635 => (some ((mget keq_KeyD u3594 get2833).getD (ByteArray.mk #[]))).bind fun u3639 => (some ((mget keq_KeyD u3594 get2836).getD (ByteArray.mk #[]))).bind fun u3643 => cond (!(u3635.toList == u3639.toList)) (cond (!(u3635.toList == u3643.toList)) (law39_BranchMerges_j5 u2114 get2839 g3356 u3594 u3635 u3639 u3643 (!(u3639.toList == u3643.toList))) (law39_BranchMerges_j5 u2114 get2839 g3356 u3594 u3635 u3639 u3643 false)) (law39_BranchMerges_j5 u2114 get2839 g3356 u3594 u3635 u3639 u3643 false)) (some (.out (.go ())))
noncomputable def law39_BranchMerges_j7 (u2105 : ((List ChangeD) × DiceD)) (u2108 : ((List ChangeD) × DiceD)) (u2114 : ((List ChangeD) × (List KeyD) × Int)) (get2830 : (List (KeyD × ByteArray))) (get2833 : (List (KeyD × ByteArray))) (get2836 : (List (KeyD × ByteArray))) (get2839 : (List (KeyD × ByteArray))) : Option Bool := (loop (fun s : Int => law39_BranchMerges_l6 u2114 get2830 get2833 get2836 get2839 s) 0).bind fun r => Fl.el r (fun s => law39_BranchMerges_j2 u2105 u2108) (fun y => some (y))
noncomputable def law39_BranchMerges_j8 (g4058 : (List (List ChangeD))) (g4062 : Int) (get4454 : (List (KeyD × ByteArray))) (get4457 : (List (KeyD × ByteArray))) (get4460 : (List (KeyD × ByteArray))) (get4463 : (List (KeyD × ByteArray))) : Option (Fl ((List (List ChangeD)) × Int × (List (KeyD × ByteArray)) × (List (KeyD × ByteArray)) × (List (KeyD × ByteArray)) × (List (KeyD × ByteArray))) ((List (KeyD × ByteArray)) × (List (KeyD × ByteArray)) × (List (KeyD × ByteArray)) × (List (KeyD × ByteArray)))) := some (.go (g4058, IntKind.i64.wrap (g4062 + 1), get4454, get4457, get4460, get4463))
noncomputable def law39_BranchMerges_l9 (g4062 : Int) (e4466 : (List ChangeD)) (g4522 : Int) (get4523 : (List (KeyD × ByteArray))) (get4526 : (List (KeyD × ByteArray))) (get4529 : (List (KeyD × ByteArray))) (get4532 : (List (KeyD × ByteArray))) : Option (Fl (Int × (List (KeyD × ByteArray)) × (List (KeyD × ByteArray)) × (List (KeyD × ByteArray)) × (List (KeyD × ByteArray))) ((List (KeyD × ByteArray)) × (List (KeyD × ByteArray)) × (List (KeyD × ByteArray)) × (List (KeyD × ByteArray)))) := cond (decide ((g4522 : Int) < (e4466.length : Int))) ((getI e4466 g4522).bind fun e4583 => cond ((g4062 : Int) == 0) (some (.go (IntKind.i64.wrap (g4522 + 1), (mput keq_KeyD e4583.Key e4583.Value get4523), get4526, get4529, get4532))) (cond ((g4062 : Int) == 1) (some (.go (IntKind.i64.wrap (g4522 + 1), get4523, (mput keq_KeyD e4583.Key e4583.Value get4526), get4529, get4532))) (cond ((g4062 : Int) == 2) (some (.go (IntKind.i64.wrap (g4522 + 1), get4523, get4526, (mput keq_KeyD e4583.Key e4583.Value get4529), get4532))) (cond ((g4062 : Int) == 3) (some (.go (IntKind.i64.wrap (g4522 + 1), get4523, get4526, get4529, (mput keq_KeyD e4583.Key e4583.Value get4532)))) (none))))) (some (.out (get4523, get4526, get4529, get4532)))
noncomputable def law39_BranchMerges_l10 (u2105 : ((List ChangeD) × DiceD)) (u2108 : ((List ChangeD) × DiceD)) (u2111 : ((List ChangeD) × DiceD)) (u2114 : ((List ChangeD) × (List KeyD) × Int)) (g4058 : (List (List ChangeD))) (g4062 : Int) (get4063 : (List (KeyD × ByteArray))) (get4066 : (List (KeyD × ByteArray))) (get4069 : (List (KeyD × ByteArray))) (get4072 : (List (KeyD × ByteArray))) : Option (Fl ((List (List ChangeD)) × Int × (List (KeyD × ByteArray)) × (List (KeyD × ByteArray)) × (List (KeyD × ByteArray)) × (List (KeyD × ByteArray))) ((List (KeyD × ByteArray)) × (List (KeyD × ByteArray)) × (List (KeyD × ByteArray)) × (List (KeyD × ByteArray)))) := cond (decide ((g4062 : Int) < (([u2105.1, u2108.1, u2111.1, u2114.1]).length : Int))) ((getI g4058 g4062).bind fun e4466 => (loop (fun s : Int × (List (KeyD × ByteArray)) × (List (KeyD × ByteArray)) × (List (KeyD × ByteArray)) × (List (KeyD × ByteArray)) => law39_BranchMerges_l9 g4062 e4466 s.1 s.2.1 s.2.2.1 s.2.2.2.1 s.2.2.2.2) (0, get4063, get4066, get4069, get4072)).bind fun r => law39_BranchMerges_j8 g4058 g4062 r.1 r.2.1 r.2.2.1 r.2.2.2) (some (.out (get4063, get4066, get4069, get4072)))
noncomputable def law39_BranchMerges_j11 (u2105 : ((List ChangeD) × DiceD)) (u2108 : ((List ChangeD) × DiceD)) (u2111 : ((List ChangeD) × DiceD)) (u2114 : ((List ChangeD) × (List KeyD) × Int)) (g2148 : Bool) : Option Bool := cond g2148 (some (false)) ((loop (fun s : (List (List ChangeD)) × Int × (List (KeyD × ByteArray)) × (List (KeyD × ByteArray)) × (List (KeyD × ByteArray)) × (List (KeyD × ByteArray)) => law39_BranchMerges_l10 u2105 u2108 u2111 u2114 s.1 s.2.1 s.2.2.1 s.2.2.2.1 s.2.2.2.2.1 s.2.2.2.2.2) ([u2105.1, u2108.1, u2111.1, u2114.1], 0, ([] : (List (KeyD × ByteArray))), ([] : (List (KeyD × ByteArray))), ([] : (List (KeyD × ByteArray))), ([] : (List (KeyD × ByteArray))))).bind fun r => law39_BranchMerges_j7 u2105 u2108 u2114 r.1 r.2.1 r.2.2.1 r.2.2.2)
noncomputable def law39_BranchMerges (t_0 : (List Int)) : Option Bool := (mill_Light t_0).bind fun u2097 => cond (!(u2097)) ((law39_awake).bind fun u2100 => some (u2100)) ((mill_Roll t_0).bind fun u2102 => (mill_Contents u2102).bind fun u2105 => (mill_Contents (DiceD.mk u2105.2.L u2105.2.At)).bind fun u2108 => (mill_Contents (DiceD.mk u2108.2.L u2108.2.At)).bind fun u2111 => (branch_Merge u2105.1 u2108.1 u2111.1).bind fun u2114 => (branch_Merge u2105.1 u2111.1 u2108.1).bind fun u2118 => cond ((u2114.2.2 : Int) != u2118.2.2) (law39_BranchMerges_j11 u2105 u2108 u2111 u2114 true) ((ref23_SameList u2114.2.1 u2118.2.1).bind fun u4617 => cond (!(u4617)) (law39_BranchMerges_j11 u2105 u2108 u2111 u2114 true) (cond (((u2114.2.2 : Int) == 49) != (decide ((0 : Int) < (u2114.2.1.length : Int)))) (law39_BranchMerges_j11 u2105 u2108 u2111 u2114 true) (cond ((u2114.2.2 : Int) != 49) (cond ((u2114.2.2 : Int) != 0) (law39_BranchMerges_j11 u2105 u2108 u2111 u2114 true) (cond ((u2114.2.2 : Int) == 0) ((ref39_Same u2114.1 u2118.1).bind fun u4624 => law39_BranchMerges_j11 u2105 u2108 u2111 u2114 (!(u4624))) (law39_BranchMerges_j11 u2105 u2108 u2111 u2114 false))) (cond ((u2114.2.2 : Int) == 0) ((ref39_Same u2114.1 u2118.1).bind fun u4627 => law39_BranchMerges_j11 u2105 u2108 u2111 u2114 (!(u4627))) (law39_BranchMerges_j11 u2105 u2108 u2111 u2114 false))))))
set_option maxRecDepth 100000 in
set_option maxHeartbeats 4000000 in
theorem law39_BranchMerges_c (T : Nat → Prop) (W0 : World) (hT : ∀ k, T k → k < W0.heap.size) (hLv : LvP T W0) (t_0 : (List Int)) (v1 : Value) (hv1 : SlR (Rep.int .i64) T W0 v1 t_0) (y : Bool) (hM : law39_BranchMerges t_0 = some y) : Rets Tryd.prog No 10 [v1] W0 (fun v w' => v = .bool y) := by
  refine enter (c := _) Tryd.func10 rfl T 209 Tryd.ntmps10 hT rfl fun a hS => ?_
  replace hS := hS.fact LvF (LvP.dn hLv)
  replace hS := hS.fact (SlF (Rep.int .i64) v1 t_0) (SlR.dn hv1)
  unfold law39_BranchMerges at hM
  refine wp_seq_k fun K230 hK230 => ?_
  refine r_list ?_
  refine wl rfl (ky (v := .bool false) hS (y_assign hS rfl) rfl rfl fun a hS => ?_)
  refine wpList_nil ?_
  try simp only [Exit.then, Exit.inBlock, ↓reduceIte, Nat.reduceEqDiff]
  refine hK230 _ _ ?_
  refine wp_seq_k fun K231 hK231 => ?_
  refine wp_seq_k fun K232 hK232 => ?_
  refine r_list ?_
  refine wl rfl (ky (v := v1) hS (y_move hS rfl) rfl rfl fun a hS => ?_)
  obtain ⟨u2097, hu2097, hM⟩ := bd hM
  refine wl rfl (k_call hS ci26 rfl rfl (mill_Light_c _ _ hS.dlt t_0 _ (hS.get 0 rfl) _ hu2097) fun _ w hR a hk hA => ?_)
  have he := Eq.symm hR
  subst he
  have hS := hA [] (fun r hr => by cases hr) List.Pairwise.nil
  refine wl rfl (ky (v := .bool (!(u2097))) hS (y_not hS rfl) rfl rfl fun a hS => ?_)
  refine wpList_nil ?_
  try simp only [Exit.then, Exit.inBlock, ↓reduceIte, Nat.reduceEqDiff]
  refine hK232 _ _ ?_
  rcases bool2 (!(u2097)) with hb2099 | hb2099
  · replace hM := ct hb2099 hM
    refine c_t hS rfl hb2099 ?_
    refine wp_seq_k fun K233 hK233 => ?_
    refine r_list ?_
    obtain ⟨u2100, hu2100, hM⟩ := bd hM
    refine wl rfl (k_call hS ci45 rfl rfl (law39_awake_c _ _ hS.dlt (hS.get 1 rfl) _ hu2100) fun _ w hR a hk hA => ?_)
    have he := Eq.symm hR
    subst he
    have hS := hA [] (fun r hr => by cases hr) List.Pairwise.nil
    refine wl rfl (ky (v := .bool u2100) hS (y_assign hS rfl) rfl rfl fun a hS => ?_)
    refine wpList_nil ?_
    try simp only [Exit.then, Exit.inBlock, ↓reduceIte, Nat.reduceEqDiff]
    refine hK233 _ _ ?_
    refine wp_ret ?_
    injection hM with hM
    subst hM
    try simp only [Exit.then, Exit.inBlock, ↓reduceIte, Nat.reduceEqDiff]
    refine ret_ok hS Tryd.results10 (res_tmp hS rfl res_nil) ?_
    exact rfl
  · replace hM := cf hb2099 hM
    refine c_f hS rfl hb2099 ?_
    refine wp_skip ?_
    try simp only [Exit.then, Exit.inBlock, ↓reduceIte, Nat.reduceEqDiff]
    refine hK231 _ _ ?_
    refine wp_seq_k fun K234 hK234 => ?_
    refine r_list ?_
    refine wl rfl (ky (v := v1) hS (y_move hS rfl) rfl rfl fun a hS => ?_)
    obtain ⟨u2102, hu2102, hM⟩ := bd hM
    refine wl rfl (k_call hS ci29 rfl rfl (mill_Roll_c _ _ hS.dlt t_0 _ (hS.get 0 rfl) _ hu2102) fun _ w hR a hk hA => ?_)
    obtain ⟨bz2103_2, vz2103_3, he, hFbz2103_2, hObz2103_2, hRvz2103_3⟩ := hR
    replace he := he.symm
    subst he
    have hS := hA [.box bz2103_2 [vz2103_3, .int .i64 u2102.At] 104] (adds1 hObz2103_2 (fun k hk => by simp only [Res.dom, Option.some.injEq] at hk; omega)) (pw1 _)
    replace hS := hS.fact (SlF (Rep.int .i64) vz2103_3 u2102.L) (hRvz2103_3.sub (dT_dT _))
    refine wl rfl (ky (v := .pointer (some ⟨bz2103_2, 0, none⟩)) hS (y_assign hS rfl) rfl rfl fun a hS => ?_)
    refine wpList_nil ?_
    try simp only [Exit.then, Exit.inBlock, ↓reduceIte, Nat.reduceEqDiff]
    refine hK234 _ _ ?_
    refine wp_seq_k fun K235 hK235 => ?_
    refine r_list ?_
    refine wl rfl (ky (v := .pointer (some ⟨bz2103_2, 0, none⟩)) hS (y_move hS rfl) rfl rfl fun a hS => ?_)
    obtain ⟨u2105, hu2105, hM⟩ := bd hM
    refine wl rfl (k_callmr hS ci46 rfl rfl 0 rfl (mill_Contents_c _ _ (hS.drop 0).dlt u2102 _ _ (hS.boxRow 0 rfl) (hS.notin 0 rfl) (SlR.lent (i := 0) rfl (hS.get 0 rfl)) (LvF.keep (hS.get 2 rfl) (Kt.refl _ _) (fun k hk => .inl ((dT_in (i := 0) rfl k).1 hk))) _ hu2105) fun _ w hR hk => ?_)
    obtain ⟨vz2106_3, clz2106_4, vz2106_5, he, ⟨hOvz2106_3, hFvz2106_3, hRvz2106_3⟩, hrow, hRvz2106_5⟩ := hR
    replace he := he.symm
    subst he
    refine ⟨[vz2106_5, .int .i64 u2105.2.At], [.own vz2106_3 88 R_ChangeD.size clz2106_4], hrow, adds1 ⟨hOvz2106_3, by decide⟩ hFvz2106_3, pw1 _, fun a hS => ?_⟩
    replace hS := hS.fact (RowsF R_ChangeD clz2106_4 u2105.1) (hRvz2106_3.keep (Kt.refl _ _) (Nw.back2 (i := 0) rfl [.own vz2106_3 88 R_ChangeD.size clz2106_4] _))
    replace hS := hS.fact (SlF (Rep.int .i64) vz2106_5 u2105.2.L) (hRvz2106_5.sub (Nw.back2 (i := 0) rfl [.own vz2106_3 88 R_ChangeD.size clz2106_4] _))
    refine wl rfl (ky (v := .pointer (some ⟨bz2103_2, 0, none⟩)) hS (y_move hS rfl) rfl rfl fun a hS => ?_)
    obtain ⟨u2108, hu2108, hM⟩ := bd hM
    refine wl rfl (k_callmr hS ci46 rfl rfl 1 rfl (mill_Contents_c _ _ (hS.drop 1).dlt (DiceD.mk u2105.2.L u2105.2.At) _ _ (hS.boxRow 1 rfl) (hS.notin 1 rfl) (SlR.lent (i := 1) rfl (hS.get 0 rfl)) (LvF.keep (hS.get 4 rfl) (Kt.refl _ _) (fun k hk => .inl ((dT_in (i := 1) rfl k).1 hk))) _ hu2108) fun _ w hR hk => ?_)
    obtain ⟨vz2109_3, clz2109_4, vz2109_5, he, ⟨hOvz2109_3, hFvz2109_3, hRvz2109_3⟩, hrow, hRvz2109_5⟩ := hR
    replace he := he.symm
    subst he
    refine ⟨[vz2109_5, .int .i64 u2108.2.At], [.own vz2109_3 88 R_ChangeD.size clz2109_4], hrow, adds1 ⟨hOvz2109_3, by decide⟩ hFvz2109_3, pw1 _, fun a hS => ?_⟩
    replace hS := hS.fact (RowsF R_ChangeD clz2109_4 u2108.1) (hRvz2109_3.keep (Kt.refl _ _) (Nw.back2 (i := 1) rfl [.own vz2109_3 88 R_ChangeD.size clz2109_4] _))
    replace hS := hS.fact (SlF (Rep.int .i64) vz2109_5 u2108.2.L) (hRvz2109_5.sub (Nw.back2 (i := 1) rfl [.own vz2109_3 88 R_ChangeD.size clz2109_4] _))
    refine wl rfl (ky (v := .pointer (some ⟨bz2103_2, 0, none⟩)) hS (y_move hS rfl) rfl rfl fun a hS => ?_)
    obtain ⟨u2111, hu2111, hM⟩ := bd hM
    refine wl rfl (k_callmr hS ci46 rfl rfl 2 rfl (mill_Contents_c _ _ (hS.drop 2).dlt (DiceD.mk u2108.2.L u2108.2.At) _ _ (hS.boxRow 2 rfl) (hS.notin 2 rfl) (SlR.lent (i := 2) rfl (hS.get 0 rfl)) (LvF.keep (hS.get 6 rfl) (Kt.refl _ _) (fun k hk => .inl ((dT_in (i := 2) rfl k).1 hk))) _ hu2111) fun _ w hR hk => ?_)
    obtain ⟨vz2112_3, clz2112_4, vz2112_5, he, ⟨hOvz2112_3, hFvz2112_3, hRvz2112_3⟩, hrow, hRvz2112_5⟩ := hR
    replace he := he.symm
    subst he
    refine ⟨[vz2112_5, .int .i64 u2111.2.At], [.own vz2112_3 88 R_ChangeD.size clz2112_4], hrow, adds1 ⟨hOvz2112_3, by decide⟩ hFvz2112_3, pw1 _, fun a hS => ?_⟩
    replace hS := hS.fact (RowsF R_ChangeD clz2112_4 u2111.1) (hRvz2112_3.keep (Kt.refl _ _) (Nw.back2 (i := 2) rfl [.own vz2112_3 88 R_ChangeD.size clz2112_4] _))
    replace hS := hS.fact (SlF (Rep.int .i64) vz2112_5 u2111.2.L) (hRvz2112_5.sub (Nw.back2 (i := 2) rfl [.own vz2112_3 88 R_ChangeD.size clz2112_4] _))
    refine wl rfl (ky (v := vz2106_3) hS (y_assign hS rfl) rfl rfl fun a hS => ?_)
    refine wl rfl (ky (v := vz2109_3) hS (y_assign hS rfl) rfl rfl fun a hS => ?_)
    refine wl rfl (ky (v := vz2112_3) hS (y_assign hS rfl) rfl rfl fun a hS => ?_)
    refine wpList_nil ?_
    try simp only [Exit.then, Exit.inBlock, ↓reduceIte, Nat.reduceEqDiff]
    refine hK235 _ _ ?_
    refine wp_seq_k fun K236 hK236 => ?_
    refine r_list ?_
    refine wl rfl (ky (v := vz2106_3) hS (y_move hS rfl) rfl rfl fun a hS => ?_)
    refine wl rfl (ky (v := vz2109_3) hS (y_move hS rfl) rfl rfl fun a hS => ?_)
    refine wl rfl (ky (v := vz2112_3) hS (y_move hS rfl) rfl rfl fun a hS => ?_)
    have hL := hS
    replace hL := hL.freeze (R := R_ChangeD) 2 rfl 5 rfl
    replace hL := hL.freeze (R := R_ChangeD) 1 rfl 4 rfl
    replace hL := hL.freeze (R := R_ChangeD) 0 rfl 3 rfl
    obtain ⟨u2114, hu2114, hM⟩ := bd hM
    refine wl rfl (k_call hS ci47 rfl rfl (branch_Merge_c _ _ hL.dlt (hL.get 11 rfl) u2105.1 u2108.1 u2111.1 _ _ _ (hL.get 2 rfl) (hL.get 1 rfl) (hL.get 0 rfl) _ hu2114) fun _ w hR a hk hA => ?_)
    obtain ⟨vz2115_4, clz2115_5, vz2115_6, clz2115_7, he, ⟨hOvz2115_4, hFvz2115_4, hRvz2115_4⟩, ⟨hOvz2115_6, hFvz2115_6, hRvz2115_6⟩, hA0⟩ := hR
    replace he := he.symm
    subst he
    have hS := hA [.own vz2115_4 88 R_ChangeD.size clz2115_5, .own vz2115_6 26 R_KeyD.size clz2115_7] (adds2 ⟨hOvz2115_4, by decide⟩ hFvz2115_4 ⟨hOvz2115_6, by decide⟩ hFvz2115_6) (pw2 hA0)
    replace hS := hS.fact (RowsF R_ChangeD clz2115_5 u2114.1) hRvz2115_4
    replace hS := hS.fact (RowsF R_KeyD clz2115_7 u2114.2.1) hRvz2115_6
    refine wl rfl (ky (v := .tuple #[vz2115_4, vz2115_6, .int .i64 u2114.2.2]) hS (y_move hS rfl) rfl rfl fun a hS => ?_)
    refine wl rfl (ky (v := vz2115_4) hS (y_ex hS rfl rfl) rfl rfl fun a hS => ?_)
    refine wl rfl (ky (v := vz2115_6) hS (y_ex hS rfl rfl) rfl rfl fun a hS => ?_)
    refine wl rfl (ky (v := .int .i64 u2114.2.2) hS (y_ex hS rfl rfl) rfl rfl fun a hS => ?_)
    refine wl rfl (ky (v := vz2115_4) hS (y_assign hS rfl) rfl rfl fun a hS => ?_)
    refine wl rfl (ky (v := vz2115_6) hS (y_assign hS rfl) rfl rfl fun a hS => ?_)
    refine wl rfl (ky (v := .int .i64 u2114.2.2) hS (y_assign hS rfl) rfl rfl fun a hS => ?_)
    refine wpList_nil ?_
    try simp only [Exit.then, Exit.inBlock, ↓reduceIte, Nat.reduceEqDiff]
    refine hK236 _ _ ?_
    refine wp_seq_k fun K237 hK237 => ?_
    refine r_list ?_
    refine wl rfl (ky (v := vz2106_3) hS (y_move hS rfl) rfl rfl fun a hS => ?_)
    refine wl rfl (ky (v := vz2112_3) hS (y_move hS rfl) rfl rfl fun a hS => ?_)
    refine wl rfl (ky (v := vz2109_3) hS (y_move hS rfl) rfl rfl fun a hS => ?_)
    have hL := hS
    replace hL := hL.freeze (R := R_ChangeD) 4 rfl 7 rfl
    replace hL := hL.freeze (R := R_ChangeD) 2 rfl 4 rfl
    replace hL := hL.freeze (R := R_ChangeD) 2 rfl 7 rfl
    obtain ⟨u2118, hu2118, hM⟩ := bd hM
    refine wl rfl (k_call hS ci47 rfl rfl (branch_Merge_c _ _ hL.dlt (hL.get 13 rfl) u2105.1 u2111.1 u2108.1 _ _ _ (hL.get 2 rfl) (hL.get 1 rfl) (hL.get 0 rfl) _ hu2118) fun _ w hR a hk hA => ?_)
    obtain ⟨vz2119_4, clz2119_5, vz2119_6, clz2119_7, he, ⟨hOvz2119_4, hFvz2119_4, hRvz2119_4⟩, ⟨hOvz2119_6, hFvz2119_6, hRvz2119_6⟩, hA0⟩ := hR
    replace he := he.symm
    subst he
    have hS := hA [.own vz2119_4 88 R_ChangeD.size clz2119_5, .own vz2119_6 26 R_KeyD.size clz2119_7] (adds2 ⟨hOvz2119_4, by decide⟩ hFvz2119_4 ⟨hOvz2119_6, by decide⟩ hFvz2119_6) (pw2 hA0)
    replace hS := hS.fact (RowsF R_ChangeD clz2119_5 u2118.1) hRvz2119_4
    replace hS := hS.fact (RowsF R_KeyD clz2119_7 u2118.2.1) hRvz2119_6
    refine wl rfl (ky (v := .tuple #[vz2119_4, vz2119_6, .int .i64 u2118.2.2]) hS (y_move hS rfl) rfl rfl fun a hS => ?_)
    refine wl rfl (ky (v := vz2119_4) hS (y_ex hS rfl rfl) rfl rfl fun a hS => ?_)
    refine wl rfl (ky (v := vz2119_6) hS (y_ex hS rfl rfl) rfl rfl fun a hS => ?_)
    refine wl rfl (ky (v := .int .i64 u2118.2.2) hS (y_ex hS rfl rfl) rfl rfl fun a hS => ?_)
    refine wl rfl (ky (v := vz2119_4) hS (y_assign hS rfl) rfl rfl fun a hS => ?_)
    refine wl rfl (ky (v := vz2119_6) hS (y_assign hS rfl) rfl rfl fun a hS => ?_)
    refine wl rfl (ky (v := .int .i64 u2118.2.2) hS (y_assign hS rfl) rfl rfl fun a hS => ?_)
    refine wpList_nil ?_
    try simp only [Exit.then, Exit.inBlock, ↓reduceIte, Nat.reduceEqDiff]
    refine hK237 _ _ ?_
    refine wp_seq_k fun K238 hK238 => ?_
    refine seq_j (J := fun a w => ∃ (g2148 : Bool), St W0 No T 209 [(4, vz2106_3), (5, vz2109_3), (6, vz2112_3), (7, vz2115_4), (8, vz2115_6), (93, .bool g2148)] [.own vz2106_3 88 R_ChangeD.size clz2106_4, .own vz2109_3 88 R_ChangeD.size clz2109_4, .own vz2112_3 88 R_ChangeD.size clz2112_4, .own vz2115_4 88 R_ChangeD.size clz2115_5, .own vz2115_6 26 R_KeyD.size clz2115_7] [RowsF R_ChangeD clz2106_4 u2105.1, RowsF R_ChangeD clz2109_4 u2108.1, RowsF R_ChangeD clz2112_4 u2111.1, RowsF R_ChangeD clz2115_5 u2114.1, RowsF R_KeyD clz2115_7 u2114.2.1, LvF] a w ∧ law39_BranchMerges_j11 u2105 u2108 u2111 u2114 g2148 = some y) ?_ ?_
    · skip
      refine r_list ?_
      refine wl rfl (ky (v := .int .i64 u2114.2.2) hS (y_move hS rfl) rfl rfl fun a hS => ?_)
      refine wl rfl (ky (v := .int .i64 u2118.2.2) hS (y_move hS rfl) rfl rfl fun a hS => ?_)
      refine wl rfl (ky (v := .bool ((u2114.2.2 : Int) != u2118.2.2)) hS (y_int hS rfl rfl rfl) rfl rfl fun a hS => ?_)
      refine wl rfl (ky (v := .bool ((u2114.2.2 : Int) != u2118.2.2)) hS (y_move hS rfl) rfl rfl fun a hS => ?_)
      rcases bool2 ((u2114.2.2 : Int) != u2118.2.2) with hb4616 | hb4616
      · replace hM := ct hb4616 hM
        refine wn hS rfl rfl rfl hb4616 rfl rfl fun a hS => ?_
        refine wn hS rfl rfl rfl hb4616 rfl rfl fun a hS => ?_
        refine wn hS rfl rfl rfl hb4616 rfl rfl fun a hS => ?_
        refine wn hS rfl rfl rfl hb4616 rfl rfl fun a hS => ?_
        refine wl rfl (ky (v := .bool true) hS (y_pickt hS rfl hb4616 rfl) rfl rfl fun a hS => ?_)
        refine wl rfl (ky (v := .bool true) hS (y_move hS rfl) rfl rfl fun a hS => ?_)
        refine wn hS rfl rfl rfl rfl rfl rfl fun a hS => ?_
        refine wn hS rfl rfl rfl rfl rfl rfl fun a hS => ?_
        refine wn hS rfl rfl rfl rfl rfl rfl fun a hS => ?_
        refine wn hS rfl rfl rfl rfl rfl rfl fun a hS => ?_
        refine wn hS rfl rfl rfl rfl rfl rfl fun a hS => ?_
        refine wn hS rfl rfl rfl rfl rfl rfl fun a hS => ?_
        refine wl rfl (ky (v := .bool true) hS (y_pickt hS rfl rfl rfl) rfl rfl fun a hS => ?_)
        refine wl rfl (ky (v := .bool true) hS (y_move hS rfl) rfl rfl fun a hS => ?_)
        refine wn hS rfl rfl rfl rfl rfl rfl fun a hS => ?_
        refine wn hS rfl rfl rfl rfl rfl rfl fun a hS => ?_
        refine wn hS rfl rfl rfl rfl rfl rfl fun a hS => ?_
        refine wnu hS rfl rfl rfl rfl rfl fun a hS => ?_
        refine wnu hS rfl rfl rfl rfl rfl fun a hS => ?_
        refine wn hS rfl rfl rfl rfl rfl rfl fun a hS => ?_
        refine wl rfl (ky (v := .bool true) hS (y_pickt hS rfl rfl rfl) rfl rfl fun a hS => ?_)
        refine wl rfl (ky (v := .bool true) hS (y_move hS rfl) rfl rfl fun a hS => ?_)
        refine wn hS rfl rfl rfl rfl rfl rfl fun a hS => ?_
        refine wn hS rfl rfl rfl rfl rfl rfl fun a hS => ?_
        refine wn hS rfl rfl rfl rfl rfl rfl fun a hS => ?_
        refine wnu hS rfl rfl rfl rfl rfl fun a hS => ?_
        refine wnu hS rfl rfl rfl rfl rfl fun a hS => ?_
        refine wnu hS rfl rfl rfl rfl rfl fun a hS => ?_
        refine wnu hS rfl rfl rfl rfl rfl fun a hS => ?_
        refine wn hS rfl rfl rfl rfl rfl rfl fun a hS => ?_
        refine wl rfl (ky (v := .bool true) hS (y_pickt hS rfl rfl rfl) rfl rfl fun a hS => ?_)
        refine wpList_nil ?_
        try simp only [Exit.then, Exit.inBlock, ↓reduceIte, Nat.reduceEqDiff]
        exact ⟨true, (hS.meet [6, 5, 4, 2, 3] (by decide) ⟨rfl, rfl, rfl, rfl, rfl, rfl, trivial⟩ ⟨rfl, rfl, rfl, rfl, rfl, trivial⟩ ⟨⟨9, rfl⟩, ⟨7, rfl⟩, ⟨5, rfl⟩, ⟨3, rfl⟩, ⟨2, rfl⟩, ⟨12, rfl⟩, trivial⟩), hM⟩
      · replace hM := cf hb4616 hM
        refine wg hS rfl rfl rfl hb4616 (ky (v := vz2115_6) hS (y_move hS rfl) rfl rfl fun a hS => ?_)
        refine wg hS rfl rfl rfl hb4616 (ky (v := vz2119_6) hS (y_move hS rfl) rfl rfl fun a hS => ?_)
        have hL := hS
        replace hL := hL.freeze (R := R_KeyD) 3 rfl 2 rfl
        replace hL := hL.freeze (R := R_KeyD) 1 rfl 1 rfl
        obtain ⟨u4617, hu4617, hM⟩ := bd hM
        refine wg hS rfl rfl rfl hb4616 (k_call hS ci38 rfl rfl (ref23_SameList_c _ _ hL.dlt u2114.2.1 u2118.2.1 _ _ (hL.get 1 rfl) (hL.get 0 rfl) _ hu4617) fun _ w hR a hk hA => ?_)
        have he := Eq.symm hR
        subst he
        have hS := hA [] (fun r hr => by cases hr) List.Pairwise.nil
        refine wg hS rfl rfl rfl hb4616 (ky (v := .bool (!(u4617))) hS (y_not hS rfl) rfl rfl fun a hS => ?_)
        refine wl rfl (ky (v := .bool (!(u4617))) hS (y_pickf hS rfl hb4616 rfl) rfl rfl fun a hS => ?_)
        refine wl rfl (ky (v := .bool (!(u4617))) hS (y_move hS rfl) rfl rfl fun a hS => ?_)
        rcases bool2 (!(u4617)) with hb4619 | hb4619
        · replace hM := ct hb4619 hM
          refine wn hS rfl rfl rfl hb4619 rfl rfl fun a hS => ?_
          refine wn hS rfl rfl rfl hb4619 rfl rfl fun a hS => ?_
          refine wn hS rfl rfl rfl hb4619 rfl rfl fun a hS => ?_
          refine wn hS rfl rfl rfl hb4619 rfl rfl fun a hS => ?_
          refine wn hS rfl rfl rfl hb4619 rfl rfl fun a hS => ?_
          refine wn hS rfl rfl rfl hb4619 rfl rfl fun a hS => ?_
          refine wl rfl (ky (v := .bool true) hS (y_pickt hS rfl hb4619 rfl) rfl rfl fun a hS => ?_)
          refine wl rfl (ky (v := .bool true) hS (y_move hS rfl) rfl rfl fun a hS => ?_)
          refine wn hS rfl rfl rfl rfl rfl rfl fun a hS => ?_
          refine wn hS rfl rfl rfl rfl rfl rfl fun a hS => ?_
          refine wn hS rfl rfl rfl rfl rfl rfl fun a hS => ?_
          refine wnu hS rfl rfl rfl rfl rfl fun a hS => ?_
          refine wnu hS rfl rfl rfl rfl rfl fun a hS => ?_
          refine wn hS rfl rfl rfl rfl rfl rfl fun a hS => ?_
          refine wl rfl (ky (v := .bool true) hS (y_pickt hS rfl rfl rfl) rfl rfl fun a hS => ?_)
          refine wl rfl (ky (v := .bool true) hS (y_move hS rfl) rfl rfl fun a hS => ?_)
          refine wn hS rfl rfl rfl rfl rfl rfl fun a hS => ?_
          refine wn hS rfl rfl rfl rfl rfl rfl fun a hS => ?_
          refine wn hS rfl rfl rfl rfl rfl rfl fun a hS => ?_
          refine wnu hS rfl rfl rfl rfl rfl fun a hS => ?_
          refine wnu hS rfl rfl rfl rfl rfl fun a hS => ?_
          refine wnu hS rfl rfl rfl rfl rfl fun a hS => ?_
          refine wnu hS rfl rfl rfl rfl rfl fun a hS => ?_
          refine wn hS rfl rfl rfl rfl rfl rfl fun a hS => ?_
          refine wl rfl (ky (v := .bool true) hS (y_pickt hS rfl rfl rfl) rfl rfl fun a hS => ?_)
          refine wpList_nil ?_
          try simp only [Exit.then, Exit.inBlock, ↓reduceIte, Nat.reduceEqDiff]
          exact ⟨true, (hS.meet [6, 5, 4, 2, 3] (by decide) ⟨rfl, rfl, rfl, rfl, rfl, rfl, trivial⟩ ⟨rfl, rfl, rfl, rfl, rfl, trivial⟩ ⟨⟨9, rfl⟩, ⟨7, rfl⟩, ⟨5, rfl⟩, ⟨3, rfl⟩, ⟨2, rfl⟩, ⟨12, rfl⟩, trivial⟩), hM⟩
        · replace hM := cf hb4619 hM
          refine wg hS rfl rfl rfl hb4619 (ky (v := .int .i64 u2114.2.2) hS (y_move hS rfl) rfl rfl fun a hS => ?_)
          refine wg hS rfl rfl rfl hb4619 (ky (v := .bool ((u2114.2.2 : Int) == 49)) hS (y_int hS rfl rfl rfl) rfl rfl fun a hS => ?_)
          refine wg hS rfl rfl rfl hb4619 (ky (v := vz2115_6) hS (y_move hS rfl) rfl rfl fun a hS => ?_)
          refine wg hS rfl rfl rfl hb4619 (ky (v := .int .i64 (u2114.2.1.length : Int)) hS (y_leno (R := R_KeyD) (xs := u2114.2.1) hS sl22 rfl 3 rfl 2 rfl) rfl rfl fun a hS => ?_)
          refine wg hS rfl rfl rfl hb4619 (ky (v := .bool (decide ((0 : Int) < (u2114.2.1.length : Int)))) hS (y_int hS rfl rfl rfl) rfl rfl fun a hS => ?_)
          refine wg hS rfl rfl rfl hb4619 (ky (v := .bool (((u2114.2.2 : Int) == 49) != (decide ((0 : Int) < (u2114.2.1.length : Int))))) hS (y_bool hS rfl rfl Tryd.underlying4 (.inr ⟨rfl, rfl⟩)) rfl rfl fun a hS => ?_)
          refine wl rfl (ky (v := .bool (((u2114.2.2 : Int) == 49) != (decide ((0 : Int) < (u2114.2.1.length : Int))))) hS (y_pickf hS rfl hb4619 rfl) rfl rfl fun a hS => ?_)
          refine wl rfl (ky (v := .bool (((u2114.2.2 : Int) == 49) != (decide ((0 : Int) < (u2114.2.1.length : Int))))) hS (y_move hS rfl) rfl rfl fun a hS => ?_)
          rcases bool2 (((u2114.2.2 : Int) == 49) != (decide ((0 : Int) < (u2114.2.1.length : Int)))) with hb4620 | hb4620
          · replace hM := ct hb4620 hM
            refine wn hS rfl rfl rfl hb4620 rfl rfl fun a hS => ?_
            refine wn hS rfl rfl rfl hb4620 rfl rfl fun a hS => ?_
            refine wn hS rfl rfl rfl hb4620 rfl rfl fun a hS => ?_
            refine wnu hS rfl rfl rfl rfl rfl fun a hS => ?_
            refine wnu hS rfl rfl rfl rfl rfl fun a hS => ?_
            refine wn hS rfl rfl rfl hb4620 rfl rfl fun a hS => ?_
            refine wl rfl (ky (v := .bool true) hS (y_pickt hS rfl hb4620 rfl) rfl rfl fun a hS => ?_)
            refine wl rfl (ky (v := .bool true) hS (y_move hS rfl) rfl rfl fun a hS => ?_)
            refine wn hS rfl rfl rfl rfl rfl rfl fun a hS => ?_
            refine wn hS rfl rfl rfl rfl rfl rfl fun a hS => ?_
            refine wn hS rfl rfl rfl rfl rfl rfl fun a hS => ?_
            refine wnu hS rfl rfl rfl rfl rfl fun a hS => ?_
            refine wnu hS rfl rfl rfl rfl rfl fun a hS => ?_
            refine wnu hS rfl rfl rfl rfl rfl fun a hS => ?_
            refine wnu hS rfl rfl rfl rfl rfl fun a hS => ?_
            refine wn hS rfl rfl rfl rfl rfl rfl fun a hS => ?_
            refine wl rfl (ky (v := .bool true) hS (y_pickt hS rfl rfl rfl) rfl rfl fun a hS => ?_)
            refine wpList_nil ?_
            try simp only [Exit.then, Exit.inBlock, ↓reduceIte, Nat.reduceEqDiff]
            exact ⟨true, (hS.meet [6, 5, 4, 2, 3] (by decide) ⟨rfl, rfl, rfl, rfl, rfl, rfl, trivial⟩ ⟨rfl, rfl, rfl, rfl, rfl, trivial⟩ ⟨⟨9, rfl⟩, ⟨7, rfl⟩, ⟨5, rfl⟩, ⟨3, rfl⟩, ⟨2, rfl⟩, ⟨12, rfl⟩, trivial⟩), hM⟩
          · replace hM := cf hb4620 hM
            refine wg hS rfl rfl rfl hb4620 (ky (v := .int .i64 u2114.2.2) hS (y_move hS rfl) rfl rfl fun a hS => ?_)
            refine wg hS rfl rfl rfl hb4620 (ky (v := .bool ((u2114.2.2 : Int) != 49)) hS (y_int hS rfl rfl rfl) rfl rfl fun a hS => ?_)
            refine wg hS rfl rfl rfl hb4620 (ky (v := .bool ((u2114.2.2 : Int) != 49)) hS (y_move hS rfl) rfl rfl fun a hS => ?_)
            rcases bool2 ((u2114.2.2 : Int) != 49) with hb4621 | hb4621
            · replace hM := ct hb4621 hM
              refine wg hS rfl rfl rfl hb4621 (ky (v := .int .i64 u2114.2.2) hS (y_move hS rfl) rfl rfl fun a hS => ?_)
              refine wg hS rfl rfl rfl hb4621 (ky (v := .bool ((u2114.2.2 : Int) != 0)) hS (y_int hS rfl rfl rfl) rfl rfl fun a hS => ?_)
              refine wg hS rfl rfl rfl hb4620 (ky (v := .bool ((u2114.2.2 : Int) != 0)) hS (y_pickt hS rfl hb4621 rfl) rfl rfl fun a hS => ?_)
              refine wl rfl (ky (v := .bool ((u2114.2.2 : Int) != 0)) hS (y_pickf hS rfl hb4620 rfl) rfl rfl fun a hS => ?_)
              refine wl rfl (ky (v := .bool ((u2114.2.2 : Int) != 0)) hS (y_move hS rfl) rfl rfl fun a hS => ?_)
              rcases bool2 ((u2114.2.2 : Int) != 0) with hb4622 | hb4622
              · replace hM := ct hb4622 hM
                refine wn hS rfl rfl rfl hb4622 rfl rfl fun a hS => ?_
                refine wn hS rfl rfl rfl hb4622 rfl rfl fun a hS => ?_
                refine wn hS rfl rfl rfl hb4622 rfl rfl fun a hS => ?_
                refine wnu hS rfl rfl rfl rfl rfl fun a hS => ?_
                refine wnu hS rfl rfl rfl rfl rfl fun a hS => ?_
                refine wnu hS rfl rfl rfl rfl rfl fun a hS => ?_
                refine wnu hS rfl rfl rfl rfl rfl fun a hS => ?_
                refine wn hS rfl rfl rfl hb4622 rfl rfl fun a hS => ?_
                refine wl rfl (ky (v := .bool true) hS (y_pickt hS rfl hb4622 rfl) rfl rfl fun a hS => ?_)
                refine wpList_nil ?_
                try simp only [Exit.then, Exit.inBlock, ↓reduceIte, Nat.reduceEqDiff]
                exact ⟨true, (hS.meet [6, 5, 4, 2, 3] (by decide) ⟨rfl, rfl, rfl, rfl, rfl, rfl, trivial⟩ ⟨rfl, rfl, rfl, rfl, rfl, trivial⟩ ⟨⟨9, rfl⟩, ⟨7, rfl⟩, ⟨5, rfl⟩, ⟨3, rfl⟩, ⟨2, rfl⟩, ⟨12, rfl⟩, trivial⟩), hM⟩
              · replace hM := cf hb4622 hM
                refine wg hS rfl rfl rfl hb4622 (ky (v := .int .i64 u2114.2.2) hS (y_move hS rfl) rfl rfl fun a hS => ?_)
                refine wg hS rfl rfl rfl hb4622 (ky (v := .bool ((u2114.2.2 : Int) == 0)) hS (y_int hS rfl rfl rfl) rfl rfl fun a hS => ?_)
                refine wg hS rfl rfl rfl hb4622 (ky (v := .bool ((u2114.2.2 : Int) == 0)) hS (y_move hS rfl) rfl rfl fun a hS => ?_)
                rcases bool2 ((u2114.2.2 : Int) == 0) with hb4623 | hb4623
                · replace hM := ct hb4623 hM
                  refine wg hS rfl rfl rfl hb4623 (ky (v := vz2115_4) hS (y_move hS rfl) rfl rfl fun a hS => ?_)
                  refine wg hS rfl rfl rfl hb4623 (ky (v := vz2119_4) hS (y_move hS rfl) rfl rfl fun a hS => ?_)
                  have hL := hS
                  replace hL := hL.freeze (R := R_ChangeD) 2 rfl 3 rfl
                  replace hL := hL.freeze (R := R_ChangeD) 0 rfl 2 rfl
                  obtain ⟨u4624, hu4624, hM⟩ := bd hM
                  refine wg hS rfl rfl rfl hb4623 (k_call hS ci48 rfl rfl (ref39_Same_c _ _ hL.dlt u2114.1 u2118.1 _ _ (hL.get 1 rfl) (hL.get 0 rfl) _ hu4624) fun _ w hR a hk hA => ?_)
                  have he := Eq.symm hR
                  subst he
                  have hS := hA [] (fun r hr => by cases hr) List.Pairwise.nil
                  refine wg hS rfl rfl rfl hb4623 (ky (v := .bool (!(u4624))) hS (y_not hS rfl) rfl rfl fun a hS => ?_)
                  refine wg hS rfl rfl rfl hb4622 (ky (v := .bool (!(u4624))) hS (y_pickt hS rfl hb4623 rfl) rfl rfl fun a hS => ?_)
                  refine wl rfl (ky (v := .bool (!(u4624))) hS (y_pickf hS rfl hb4622 rfl) rfl rfl fun a hS => ?_)
                  refine wpList_nil ?_
                  try simp only [Exit.then, Exit.inBlock, ↓reduceIte, Nat.reduceEqDiff]
                  exact ⟨(!(u4624)), (hS.meet [6, 5, 4, 2, 3] (by decide) ⟨rfl, rfl, rfl, rfl, rfl, rfl, trivial⟩ ⟨rfl, rfl, rfl, rfl, rfl, trivial⟩ ⟨⟨9, rfl⟩, ⟨7, rfl⟩, ⟨5, rfl⟩, ⟨3, rfl⟩, ⟨2, rfl⟩, ⟨12, rfl⟩, trivial⟩), hM⟩
                · replace hM := cf hb4623 hM
                  refine wn hS rfl rfl rfl hb4623 rfl rfl fun a hS => ?_
                  refine wn hS rfl rfl rfl hb4623 rfl rfl fun a hS => ?_
                  refine wn hS rfl rfl rfl hb4623 rfl rfl fun a hS => ?_
                  refine wn hS rfl rfl rfl hb4623 rfl rfl fun a hS => ?_
                  refine wg hS rfl rfl rfl hb4622 (ky (v := .bool false) hS (y_pickf hS rfl hb4623 rfl) rfl rfl fun a hS => ?_)
                  refine wl rfl (ky (v := .bool false) hS (y_pickf hS rfl hb4622 rfl) rfl rfl fun a hS => ?_)
                  refine wpList_nil ?_
                  try simp only [Exit.then, Exit.inBlock, ↓reduceIte, Nat.reduceEqDiff]
                  exact ⟨false, (hS.meet [6, 5, 4, 2, 3] (by decide) ⟨rfl, rfl, rfl, rfl, rfl, rfl, trivial⟩ ⟨rfl, rfl, rfl, rfl, rfl, trivial⟩ ⟨⟨9, rfl⟩, ⟨7, rfl⟩, ⟨5, rfl⟩, ⟨3, rfl⟩, ⟨2, rfl⟩, ⟨12, rfl⟩, trivial⟩), hM⟩
            · replace hM := cf hb4621 hM
              refine wn hS rfl rfl rfl hb4621 rfl rfl fun a hS => ?_
              refine wn hS rfl rfl rfl hb4621 rfl rfl fun a hS => ?_
              refine wg hS rfl rfl rfl hb4620 (ky (v := .bool false) hS (y_pickf hS rfl hb4621 rfl) rfl rfl fun a hS => ?_)
              refine wl rfl (ky (v := .bool false) hS (y_pickf hS rfl hb4620 rfl) rfl rfl fun a hS => ?_)
              refine wl rfl (ky (v := .bool false) hS (y_move hS rfl) rfl rfl fun a hS => ?_)
              refine wg hS rfl rfl rfl rfl (ky (v := .int .i64 u2114.2.2) hS (y_move hS rfl) rfl rfl fun a hS => ?_)
              refine wg hS rfl rfl rfl rfl (ky (v := .bool ((u2114.2.2 : Int) == 0)) hS (y_int hS rfl rfl rfl) rfl rfl fun a hS => ?_)
              refine wg hS rfl rfl rfl rfl (ky (v := .bool ((u2114.2.2 : Int) == 0)) hS (y_move hS rfl) rfl rfl fun a hS => ?_)
              rcases bool2 ((u2114.2.2 : Int) == 0) with hb4626 | hb4626
              · replace hM := ct hb4626 hM
                refine wg hS rfl rfl rfl hb4626 (ky (v := vz2115_4) hS (y_move hS rfl) rfl rfl fun a hS => ?_)
                refine wg hS rfl rfl rfl hb4626 (ky (v := vz2119_4) hS (y_move hS rfl) rfl rfl fun a hS => ?_)
                have hL := hS
                replace hL := hL.freeze (R := R_ChangeD) 2 rfl 3 rfl
                replace hL := hL.freeze (R := R_ChangeD) 0 rfl 2 rfl
                obtain ⟨u4627, hu4627, hM⟩ := bd hM
                refine wg hS rfl rfl rfl hb4626 (k_call hS ci48 rfl rfl (ref39_Same_c _ _ hL.dlt u2114.1 u2118.1 _ _ (hL.get 1 rfl) (hL.get 0 rfl) _ hu4627) fun _ w hR a hk hA => ?_)
                have he := Eq.symm hR
                subst he
                have hS := hA [] (fun r hr => by cases hr) List.Pairwise.nil
                refine wg hS rfl rfl rfl hb4626 (ky (v := .bool (!(u4627))) hS (y_not hS rfl) rfl rfl fun a hS => ?_)
                refine wg hS rfl rfl rfl rfl (ky (v := .bool (!(u4627))) hS (y_pickt hS rfl hb4626 rfl) rfl rfl fun a hS => ?_)
                refine wl rfl (ky (v := .bool (!(u4627))) hS (y_pickf hS rfl rfl rfl) rfl rfl fun a hS => ?_)
                refine wpList_nil ?_
                try simp only [Exit.then, Exit.inBlock, ↓reduceIte, Nat.reduceEqDiff]
                exact ⟨(!(u4627)), (hS.meet [6, 5, 4, 2, 3] (by decide) ⟨rfl, rfl, rfl, rfl, rfl, rfl, trivial⟩ ⟨rfl, rfl, rfl, rfl, rfl, trivial⟩ ⟨⟨9, rfl⟩, ⟨7, rfl⟩, ⟨5, rfl⟩, ⟨3, rfl⟩, ⟨2, rfl⟩, ⟨12, rfl⟩, trivial⟩), hM⟩
              · replace hM := cf hb4626 hM
                refine wn hS rfl rfl rfl hb4626 rfl rfl fun a hS => ?_
                refine wn hS rfl rfl rfl hb4626 rfl rfl fun a hS => ?_
                refine wn hS rfl rfl rfl hb4626 rfl rfl fun a hS => ?_
                refine wn hS rfl rfl rfl hb4626 rfl rfl fun a hS => ?_
                refine wg hS rfl rfl rfl rfl (ky (v := .bool false) hS (y_pickf hS rfl hb4626 rfl) rfl rfl fun a hS => ?_)
                refine wl rfl (ky (v := .bool false) hS (y_pickf hS rfl rfl rfl) rfl rfl fun a hS => ?_)
                refine wpList_nil ?_
                try simp only [Exit.then, Exit.inBlock, ↓reduceIte, Nat.reduceEqDiff]
                exact ⟨false, (hS.meet [6, 5, 4, 2, 3] (by decide) ⟨rfl, rfl, rfl, rfl, rfl, rfl, trivial⟩ ⟨rfl, rfl, rfl, rfl, rfl, trivial⟩ ⟨⟨9, rfl⟩, ⟨7, rfl⟩, ⟨5, rfl⟩, ⟨3, rfl⟩, ⟨2, rfl⟩, ⟨12, rfl⟩, trivial⟩), hM⟩
    · rintro a w ⟨g2148, hS, hM⟩
      unfold law39_BranchMerges_j11 at hM
      rcases bool2 (g2148) with hb2149 | hb2149
      · replace hM := ct hb2149 hM
        refine c_t hS rfl hb2149 ?_
        refine wp_seq_k fun K239 hK239 => ?_
        refine r_list ?_
        refine wl rfl (ky (v := .bool false) hS (y_assign hS rfl) rfl rfl fun a hS => ?_)
        refine wpList_nil ?_
        try simp only [Exit.then, Exit.inBlock, ↓reduceIte, Nat.reduceEqDiff]
        refine hK239 _ _ ?_
        refine wp_ret ?_
        injection hM with hM
        subst hM
        try simp only [Exit.then, Exit.inBlock, ↓reduceIte, Nat.reduceEqDiff]
        refine ret_ok hS Tryd.results10 (res_tmp hS rfl res_nil) ?_
        exact rfl
      · replace hM := cf hb2149 hM
        refine c_f hS rfl hb2149 ?_
        refine wp_skip ?_
        try simp only [Exit.then, Exit.inBlock, ↓reduceIte, Nat.reduceEqDiff]
        refine hK238 _ _ ?_
        refine wp_seq_k fun K240 hK240 => ?_
        refine r_list ?_
        refine wl rfl (k_mkmap R_KeyD true Rep.str false hS rfl fun b2150 hnb2151 a w hk hS => ?_)
        refine wl rfl (k_mkmap R_KeyD true Rep.str false hS rfl fun b2153 hnb2154 a w hk hS => ?_)
        refine wl rfl (k_mkmap R_KeyD true Rep.str false hS rfl fun b2156 hnb2157 a w hk hS => ?_)
        refine wl rfl (k_mkmap R_KeyD true Rep.str false hS rfl fun b2159 hnb2160 a w hk hS => ?_)
        refine wl rfl (ky (v := .agg #[.map (some b2150), .map (some b2153), .map (some b2156), .map (some b2159)]) hS (y_builda (ps := [(0, .tmp 94), (1, .tmp 95), (2, .tmp 96), (3, .tmp 97)]) hS ar85 ty84 ze85 rfl (us := [[.map (some b2150)], [.map (some b2153)], [.map (some b2156)], [.map (some b2159)]]) ⟨rfl, ⟨rfl, ⟨rfl, ⟨rfl, trivial⟩⟩⟩⟩ (ws := [.map (some b2150), .map (some b2153), .map (some b2156), .map (some b2159)]) rfl) rfl rfl fun a hS => ?_)
        refine wl rfl (k_alloc hS ze85 rfl fun b2162 hnb2164 a w hk hS => ?_)
        refine wl rfl (k_store hS rfl rfl (us := [.map (some b2150), .map (some b2153), .map (some b2156), .map (some b2159)]) rfl ty85 0 rfl rfl rfl (oc rfl (oc rfl (oc rfl (oc rfl on)))) fun w hk hS => ?_)
        refine wpList_nil ?_
        try simp only [Exit.then, Exit.inBlock, ↓reduceIte, Nat.reduceEqDiff]
        refine hK240 _ _ ?_
        refine seq_j (J := fun a w => ∃ (get2830 : (List (KeyD × ByteArray))) (get2833 : (List (KeyD × ByteArray))) (get2836 : (List (KeyD × ByteArray))) (get2839 : (List (KeyD × ByteArray))) (es2831 : (Array MapEntry)) (ck2832 : Nat) (es2834 : (Array MapEntry)) (ck2835 : Nat) (es2837 : (Array MapEntry)) (ck2838 : Nat) (es2840 : (Array MapEntry)) (ck2841 : Nat), St W0 No T 209 [(4, vz2106_3), (5, vz2109_3), (8, vz2115_6), (13, .pointer (some ⟨b2162, 0, none⟩))] [.own vz2115_6 26 R_KeyD.size clz2115_7, .obj b2150 (.map es2831 ck2832), .obj b2153 (.map es2834 ck2835), .obj b2156 (.map es2837 ck2838), .obj b2159 (.map es2840 ck2841), .box b2162 [.map (some b2150), .map (some b2153), .map (some b2156), .map (some b2159)] 85] [SlF R_ChangeD vz2106_3 u2105.1, SlF R_ChangeD vz2109_3 u2108.1, RowsF R_KeyD clz2115_7 u2114.2.1, MapF R_KeyD true Rep.str false es2831 get2830, MapF R_KeyD true Rep.str false es2834 get2833, MapF R_KeyD true Rep.str false es2837 get2836, MapF R_KeyD true Rep.str false es2840 get2839, LvF] a w ∧ law39_BranchMerges_j7 u2105 u2108 u2114 get2830 get2833 get2836 get2839 = some y) ?_ ?_
        · skip
          refine wp_seq_k fun K412 hK412 => ?_
          refine r_list ?_
          refine wl rfl (ky (v := vz2106_3) hS (y_move hS rfl) rfl rfl fun a hS => ?_)
          refine wl rfl (ky (v := vz2109_3) hS (y_move hS rfl) rfl rfl fun a hS => ?_)
          refine wl rfl (ky (v := vz2112_3) hS (y_move hS rfl) rfl rfl fun a hS => ?_)
          refine wl rfl (ky (v := vz2115_4) hS (y_move hS rfl) rfl rfl fun a hS => ?_)
          refine wl rfl (k_bslice (ps := [(0, .tmp 99), (1, .tmp 100), (2, .tmp 101), (3, .tmp 102)]) hS el86 ze79 (zl := [.slice none 0 0, .slice none 0 0, .slice none 0 0, .slice none 0 0]) (by kernel_rfl) rfl (us := [[vz2106_3], [vz2109_3], [vz2112_3], [vz2115_4]]) ⟨(cells1 (own_one (hS.own _ (List.mem_of_getElem? (i := 5) rfl)).1)), ⟨(cells1 (own_one (hS.own _ (List.mem_of_getElem? (i := 6) rfl)).1)), ⟨(cells1 (own_one (hS.own _ (List.mem_of_getElem? (i := 7) rfl)).1)), ⟨(cells1 (own_one (hS.own _ (List.mem_of_getElem? (i := 8) rfl)).1)), trivial⟩⟩⟩⟩ (ws := [vz2106_3, vz2109_3, vz2112_3, vz2115_4]) rfl rfl rfl rfl fun b3672 a w hk hS => ?_)
          replace hS := hS.freeze (R := R_ChangeD) 6 rfl 4 rfl
          replace hS := hS.freeze (R := R_ChangeD) 6 rfl 6 rfl
          replace hS := hS.freeze (R := R_ChangeD) 6 rfl 8 rfl
          replace hS := hS.freeze (R := R_ChangeD) 6 rfl 10 rfl
          replace hS := hS.lit (R := (Rep.slice R_ChangeD)) (us := [vz2106_3, vz2109_3, vz2112_3, vz2115_4]) (xs := [u2105.1, u2108.1, u2111.1, u2114.1]) 0 rfl (by decide) ((RowsOk.one_ (R := (Rep.slice R_ChangeD)) (x := u2105.1) (⟨_, rfl, (hS.get 3 rfl)⟩)).append ((RowsOk.one_ (R := (Rep.slice R_ChangeD)) (x := u2108.1) (⟨_, rfl, (hS.get 2 rfl)⟩)).append ((RowsOk.one_ (R := (Rep.slice R_ChangeD)) (x := u2111.1) (⟨_, rfl, (hS.get 1 rfl)⟩)).append (RowsOk.one_ (R := (Rep.slice R_ChangeD)) (x := u2114.1) (⟨_, rfl, (hS.get 0 rfl)⟩))))) rfl rfl
          refine wl rfl (ky (v := .int .i64 (([u2105.1, u2108.1, u2111.1, u2114.1]).length : Int)) hS (y_leno (R := (Rep.slice R_ChangeD)) (xs := [u2105.1, u2108.1, u2111.1, u2114.1]) hS sl86 rfl 0 rfl 0 rfl) rfl rfl fun a hS => ?_)
          refine wl rfl (ky (v := .int .i64 0) hS (y_move hS rfl) rfl rfl fun a hS => ?_)
          refine wpList_nil ?_
          try simp only [Exit.then, Exit.inBlock, ↓reduceIte, Nat.reduceEqDiff]
          refine hK412 _ _ ?_
          refine wp_block ?_
          obtain ⟨r1, hl1, hMo1⟩ := bd hM
          refine wp_lp (fun s : (List (List ChangeD)) × Int × (List (KeyD × ByteArray)) × (List (KeyD × ByteArray)) × (List (KeyD × ByteArray)) × (List (KeyD × ByteArray)) => law39_BranchMerges_l10 u2105 u2108 u2111 u2114 s.1 s.2.1 s.2.2.1 s.2.2.2.1 s.2.2.2.2.1 s.2.2.2.2.2) (fun s a w => ∃ (g4058 : (List (List ChangeD))) (g4062 : Int) (get4063 : (List (KeyD × ByteArray))) (get4066 : (List (KeyD × ByteArray))) (get4069 : (List (KeyD × ByteArray))) (get4072 : (List (KeyD × ByteArray))) (v4059 : Value) (cl4060 : (List Value)) (es4064 : (Array MapEntry)) (ck4065 : Nat) (es4067 : (Array MapEntry)) (ck4068 : Nat) (es4070 : (Array MapEntry)) (ck4071 : Nat) (es4073 : (Array MapEntry)) (ck4074 : Nat), (g4058, g4062, get4063, get4066, get4069, get4072) = s ∧ St W0 No T 209 [(4, vz2106_3), (5, vz2109_3), (8, vz2115_6), (13, .pointer (some ⟨b2162, 0, none⟩)), (103, v4059), (104, .int .i64 (([u2105.1, u2108.1, u2111.1, u2114.1]).length : Int)), (105, .int .i64 g4062)] [.own vz2115_6 26 R_KeyD.size clz2115_7, .own v4059 79 (Rep.slice R_ChangeD).size cl4060, .obj b2150 (.map es4064 ck4065), .obj b2153 (.map es4067 ck4068), .obj b2156 (.map es4070 ck4071), .obj b2159 (.map es4073 ck4074), .box b2162 [.map (some b2150), .map (some b2153), .map (some b2156), .map (some b2159)] 85] [SlF R_ChangeD vz2106_3 u2105.1, SlF R_ChangeD vz2109_3 u2108.1, RowsF R_KeyD clz2115_7 u2114.2.1, RowsF (Rep.slice R_ChangeD) cl4060 g4058, MapF R_KeyD true Rep.str false es4064 get4063, MapF R_KeyD true Rep.str false es4067 get4066, MapF R_KeyD true Rep.str false es4070 get4069, MapF R_KeyD true Rep.str false es4073 get4072, LvF] a w) hl1 ⟨([u2105.1, u2108.1, u2111.1, u2114.1]), 0, ([] : (List (KeyD × ByteArray))), ([] : (List (KeyD × ByteArray))), ([] : (List (KeyD × ByteArray))), ([] : (List (KeyD × ByteArray))), (.slice (some ⟨b3672, 0, none⟩) 4 4), ([vz2106_3, vz2109_3, vz2112_3, vz2115_4]), (#[]), 0, (#[]), 0, (#[]), 0, (#[]), 0, rfl, (hS.meet [6, 0, 5, 4, 3, 2, 1] (by decide) ⟨rfl, rfl, rfl, rfl, rfl, rfl, rfl, trivial⟩ ⟨rfl, rfl, rfl, rfl, rfl, rfl, rfl, trivial⟩ ⟨⟨4, rfl⟩, ⟨3, rfl⟩, ⟨13, rfl⟩, ⟨0, rfl⟩, ⟨5, rfl⟩, ⟨5, rfl⟩, ⟨5, rfl⟩, ⟨5, rfl⟩, ⟨14, rfl⟩, trivial⟩)⟩ ?_
          rintro s a w f1 ⟨g4058, g4062, get4063, get4066, get4069, get4072, v4059, cl4060, es4064, ck4065, es4067, ck4068, es4070, ck4071, es4073, ck4074, rfl, hS⟩ hM hf1
          have hM : law39_BranchMerges_l10 u2105 u2108 u2111 u2114 g4058 g4062 get4063 get4066 get4069 get4072 = some f1 := hM
          unfold law39_BranchMerges_l10 at hM
          refine wp_seq_k fun K479 hK479 => ?_
          refine r_list ?_
          refine wl rfl (ky (v := .bool (decide ((g4062 : Int) < (([u2105.1, u2108.1, u2111.1, u2114.1]).length : Int)))) hS (y_int hS rfl rfl rfl) rfl rfl fun a hS => ?_)
          refine wpList_nil ?_
          try simp only [Exit.then, Exit.inBlock, ↓reduceIte, Nat.reduceEqDiff]
          refine hK479 _ _ ?_
          refine wp_seq_k fun K480 hK480 => ?_
          rcases bool2 (decide ((g4062 : Int) < (([u2105.1, u2108.1, u2111.1, u2114.1]).length : Int))) with hb4337 | hb4337
          · replace hM := ct hb4337 hM
            refine c_t hS rfl hb4337 ?_
            refine wp_skip ?_
            try simp only [Exit.then, Exit.inBlock, ↓reduceIte, Nat.reduceEqDiff]
            refine hK480 _ _ ?_
            refine seq_j (J := fun a w => ∃ (get4454 : (List (KeyD × ByteArray))) (get4457 : (List (KeyD × ByteArray))) (get4460 : (List (KeyD × ByteArray))) (get4463 : (List (KeyD × ByteArray))) (es4455 : (Array MapEntry)) (ck4456 : Nat) (es4458 : (Array MapEntry)) (ck4459 : Nat) (es4461 : (Array MapEntry)) (ck4462 : Nat) (es4464 : (Array MapEntry)) (ck4465 : Nat), St W0 No T 209 [(4, vz2106_3), (5, vz2109_3), (8, vz2115_6), (13, .pointer (some ⟨b2162, 0, none⟩)), (103, v4059), (104, .int .i64 (([u2105.1, u2108.1, u2111.1, u2114.1]).length : Int)), (105, .int .i64 g4062)] [.own vz2115_6 26 R_KeyD.size clz2115_7, .own v4059 79 (Rep.slice R_ChangeD).size cl4060, .obj b2150 (.map es4455 ck4456), .obj b2153 (.map es4458 ck4459), .obj b2156 (.map es4461 ck4462), .obj b2159 (.map es4464 ck4465), .box b2162 [.map (some b2150), .map (some b2153), .map (some b2156), .map (some b2159)] 85] [SlF R_ChangeD vz2106_3 u2105.1, SlF R_ChangeD vz2109_3 u2108.1, RowsF R_KeyD clz2115_7 u2114.2.1, RowsF (Rep.slice R_ChangeD) cl4060 g4058, MapF R_KeyD true Rep.str false es4455 get4454, MapF R_KeyD true Rep.str false es4458 get4457, MapF R_KeyD true Rep.str false es4461 get4460, MapF R_KeyD true Rep.str false es4464 get4463, LvF] a w ∧ law39_BranchMerges_j8 g4058 g4062 get4454 get4457 get4460 get4463 = some f1) ?_ ?_
            · skip
              refine wp_block ?_
              refine wp_seq_k fun K491 hK491 => ?_
              refine r_list ?_
              refine wl rfl (ky (v := .int .i64 g4062) hS (y_move hS rfl) rfl rfl fun a hS => ?_)
              obtain ⟨e4466, he4466, hM⟩ := bd hM
              refine wl rfl (k_indexo (R := (Rep.slice R_ChangeD)) hS sl86 ty79 rfl rfl 1 rfl 3 rfl he4466 rfl fun b4468 o4469 p4474 cs4471 hr4470 hO4472 hC4473 a hS => ?_)
              obtain ⟨v4467, rfl, hv4467⟩ := hr4470
              replace hS := hS.fact (SlF R_ChangeD v4467 e4466) hv4467
              refine wl rfl (ky (v := v4467) hS (y_loado (k := 0) hS ty79 1 rfl hO4472 hC4473 rfl id (us := [v4467]) rfl rfl (fun _ => rfl)) rfl rfl fun a hS => ?_)
              refine wl rfl (ky (v := .int .i64 g4062) hS (y_assign hS rfl) rfl rfl fun a hS => ?_)
              refine wl rfl (ky (v := v4467) hS (y_assign hS rfl) rfl rfl fun a hS => ?_)
              refine wpList_nil ?_
              try simp only [Exit.then, Exit.inBlock, ↓reduceIte, Nat.reduceEqDiff]
              refine hK491 _ _ ?_
              refine wp_seq_k fun K492 hK492 => ?_
              refine r_list ?_
              refine wl rfl (ky (v := v4467) hS (y_move hS rfl) rfl rfl fun a hS => ?_)
              refine wl rfl (ky (v := .int .i64 (e4466.length : Int)) hS (y_len (R := R_ChangeD) (xs := e4466) hS sl79 rfl 0 rfl) rfl rfl fun a hS => ?_)
              refine wl rfl (ky (v := .int .i64 0) hS (y_move hS rfl) rfl rfl fun a hS => ?_)
              refine wpList_nil ?_
              try simp only [Exit.then, Exit.inBlock, ↓reduceIte, Nat.reduceEqDiff]
              refine hK492 _ _ ?_
              refine wp_block ?_
              obtain ⟨r2, hl2, hMo2⟩ := bd hM
              refine wp_lp (fun s : Int × (List (KeyD × ByteArray)) × (List (KeyD × ByteArray)) × (List (KeyD × ByteArray)) × (List (KeyD × ByteArray)) => law39_BranchMerges_l9 g4062 e4466 s.1 s.2.1 s.2.2.1 s.2.2.2.1 s.2.2.2.2) (fun s a w => ∃ (g4522 : Int) (get4523 : (List (KeyD × ByteArray))) (get4526 : (List (KeyD × ByteArray))) (get4529 : (List (KeyD × ByteArray))) (get4532 : (List (KeyD × ByteArray))) (es4524 : (Array MapEntry)) (ck4525 : Nat) (es4527 : (Array MapEntry)) (ck4528 : Nat) (es4530 : (Array MapEntry)) (ck4531 : Nat) (es4533 : (Array MapEntry)) (ck4534 : Nat), (g4522, get4523, get4526, get4529, get4532) = s ∧ St W0 No T 209 [(4, vz2106_3), (5, vz2109_3), (8, vz2115_6), (13, .pointer (some ⟨b2162, 0, none⟩)), (14, .int .i64 g4062), (103, v4059), (104, .int .i64 (([u2105.1, u2108.1, u2111.1, u2114.1]).length : Int)), (105, .int .i64 g4062), (110, v4467), (111, .int .i64 (e4466.length : Int)), (112, .int .i64 g4522)] [.own vz2115_6 26 R_KeyD.size clz2115_7, .own v4059 79 (Rep.slice R_ChangeD).size cl4060, .obj b2150 (.map es4524 ck4525), .obj b2153 (.map es4527 ck4528), .obj b2156 (.map es4530 ck4531), .obj b2159 (.map es4533 ck4534), .box b2162 [.map (some b2150), .map (some b2153), .map (some b2156), .map (some b2159)] 85] [SlF R_ChangeD vz2106_3 u2105.1, SlF R_ChangeD vz2109_3 u2108.1, RowsF R_KeyD clz2115_7 u2114.2.1, RowsF (Rep.slice R_ChangeD) cl4060 g4058, SlF R_ChangeD v4467 e4466, MapF R_KeyD true Rep.str false es4524 get4523, MapF R_KeyD true Rep.str false es4527 get4526, MapF R_KeyD true Rep.str false es4530 get4529, MapF R_KeyD true Rep.str false es4533 get4532, LvF] a w) hl2 ⟨0, get4063, get4066, get4069, get4072, es4064, ck4065, es4067, ck4068, es4070, ck4071, es4073, ck4074, rfl, (hS.meet [0, 1, 2, 3, 4, 5, 6] (by decide) ⟨rfl, rfl, rfl, rfl, rfl, rfl, rfl, rfl, rfl, rfl, rfl, trivial⟩ ⟨rfl, rfl, rfl, rfl, rfl, rfl, rfl, trivial⟩ ⟨⟨1, rfl⟩, ⟨2, rfl⟩, ⟨3, rfl⟩, ⟨4, rfl⟩, ⟨0, rfl⟩, ⟨5, rfl⟩, ⟨6, rfl⟩, ⟨7, rfl⟩, ⟨8, rfl⟩, ⟨9, rfl⟩, trivial⟩)⟩ ?_
              rintro s a w f2 ⟨g4522, get4523, get4526, get4529, get4532, es4524, ck4525, es4527, ck4528, es4530, ck4531, es4533, ck4534, rfl, hS⟩ hM hf2
              have hM : law39_BranchMerges_l9 g4062 e4466 g4522 get4523 get4526 get4529 get4532 = some f2 := hM
              unfold law39_BranchMerges_l9 at hM
              refine wp_seq_k fun K501 hK501 => ?_
              refine r_list ?_
              refine wl rfl (ky (v := .bool (decide ((g4522 : Int) < (e4466.length : Int)))) hS (y_int hS rfl rfl rfl) rfl rfl fun a hS => ?_)
              refine wpList_nil ?_
              try simp only [Exit.then, Exit.inBlock, ↓reduceIte, Nat.reduceEqDiff]
              refine hK501 _ _ ?_
              refine wp_seq_k fun K502 hK502 => ?_
              rcases bool2 (decide ((g4522 : Int) < (e4466.length : Int))) with hb4582 | hb4582
              · replace hM := ct hb4582 hM
                refine c_t hS rfl hb4582 ?_
                refine wp_skip ?_
                try simp only [Exit.then, Exit.inBlock, ↓reduceIte, Nat.reduceEqDiff]
                refine hK502 _ _ ?_
                refine wp_seq_k fun K503 hK503 => ?_
                refine wp_block ?_
                refine wp_seq_k fun K504 hK504 => ?_
                refine r_list ?_
                obtain ⟨e4583, he4583, hM⟩ := bd hM
                refine wl rfl (k_index (R := R_ChangeD) hS sl79 ty88 rfl rfl 4 rfl he4583 rfl fun b4584 o4585 cs4587 hr4586 a hS => ?_)
                obtain rfl := hr4586
                refine wl rfl (ky (v := .agg #[.int .i64 e4583.Key.Kind, .string e4583.Key.Text, .string e4583.Value]) hS (y_loadc (k := 0) hS ty88 0 rfl rfl (fun _ h => h.elim) (us := [.int .i64 e4583.Key.Kind, .string e4583.Key.Text, .string e4583.Value]) rfl rfl (fun h => by cases h)) rfl rfl fun a hS => ?_)
                refine wl rfl (k_alloc hS ze88 rfl fun b4589 hnb4591 a w hk hS => ?_)
                refine wl rfl (k_store hS rfl rfl (us := [.int .i64 e4583.Key.Kind, .string e4583.Key.Text, .string e4583.Value]) rfl ty88 0 rfl rfl rfl (oc rfl (oc rfl (oc rfl on))) fun w hk hS => ?_)
                refine wpList_nil ?_
                try simp only [Exit.then, Exit.inBlock, ↓reduceIte, Nat.reduceEqDiff]
                refine hK504 _ _ ?_
                refine draws [(7, .any)] hS mixed rfl (fun c a d v w h => by cases d <;> exact h) fun w hQ hS => ?_
                refine dy 0 (v := .int .i64 g4062) rfl (by kernel_rfl) (by kernel_rfl) (by kernel_rfl) rfl hQ hS (y_move hS rfl) rfl rfl rfl fun a hS => ?_
                rcases bool2 ((g4062 : Int) == 0) with hb4604 | hb4604
                · replace hM := ct hb4604 hM
                  refine dy 1 (v := .pointer (some ⟨b2162, 0 + 0 * 1, none⟩)) rfl (by kernel_rfl) (by kernel_rfl) (by kernel_rfl) rfl hQ hS (y_aidx (c := 0) hS ar85 ty84 rfl rfl hb4604 rfl) rfl rfl rfl fun a hS => ?_
                  refine dy (l := []) 2 (v := .map (some b2150)) rfl (by kernel_rfl) (by kernel_rfl) (by kernel_rfl) (by kernel_rfl) hQ hS (y_load hS rfl ty84 7 rfl eo_nil (us := [.map (some b2150)]) rfl rfl (fun _ => rfl)) rfl rfl rfl fun a hS => ?_
                  refine dy 3 (v := .pointer (some ⟨b4589, 0 + 0, none⟩)) rfl (by kernel_rfl) (by kernel_rfl) (by kernel_rfl) rfl hQ hS (y_fld hS rfl fl88_0) rfl rfl rfl fun a hS => ?_
                  refine dy (l := []) 4 (v := .agg #[.int .i64 e4583.Key.Kind, .string e4583.Key.Text]) rfl (by kernel_rfl) (by kernel_rfl) (by kernel_rfl) (by kernel_rfl) hQ hS (y_load hS rfl ty26 0 rfl eo_nil (us := [.int .i64 e4583.Key.Kind, .string e4583.Key.Text]) rfl rfl (fun h => by cases h)) rfl rfl rfl fun a hS => ?_
                  refine dy 5 (v := .pointer (some ⟨b4589, 0 + 2, none⟩)) rfl (by kernel_rfl) (by kernel_rfl) (by kernel_rfl) rfl hQ hS (y_fld hS rfl fl88_1) rfl rfl rfl fun a hS => ?_
                  refine dy (l := []) 6 (v := .string e4583.Value) rfl (by kernel_rfl) (by kernel_rfl) (by kernel_rfl) (by kernel_rfl) hQ hS (y_load hS rfl ty9 0 rfl eo_nil (us := [.string e4583.Value]) rfl rfl (fun _ => rfl)) rfl rfl rfl fun a hS => ?_
                  refine wpE_one (i := 7) rfl (by kernel_rfl) rfl (k_mput hS mp84 kt_KeyD 3 rfl 6 rfl (c := [.int .i64 e4583.Key.Kind, .string e4583.Key.Text]) (cv := [.string e4583.Value]) (key := e4583.Key) (val := e4583.Value) rfl rfl rfl rfl rfl fun es4605 ck4606 w hk hS => ⟨stM rfl hk etAny, ?_⟩)
                  refine wpE_done (by kernel_rfl) ?_ _
                  try simp only [Exit.then, Exit.inBlock, ↓reduceIte, Nat.reduceEqDiff]
                  refine hK503 _ _ ?_
                  refine r_list ?_
                  refine wl rfl (ky (v := .int .i64 (IntKind.i64.wrap (g4522 + 1))) hS (y_int hS rfl rfl rfl) rfl rfl fun a hS => ?_)
                  refine wl rfl (ky (v := .int .i64 (IntKind.i64.wrap (g4522 + 1))) hS (y_move hS rfl) rfl rfl fun a hS => ?_)
                  refine wpList_nil ?_
                  try simp only [Exit.then, Exit.inBlock, ↓reduceIte, Nat.reduceEqDiff]
                  exact ⟨(IntKind.i64.wrap (g4522 + 1), (mput keq_KeyD e4583.Key e4583.Value get4523), get4526, get4529, get4532), (Option.some.inj hM).symm, (IntKind.i64.wrap (g4522 + 1)), (mput keq_KeyD e4583.Key e4583.Value get4523), get4526, get4529, get4532, es4605, ck4606, es4527, ck4528, es4530, ck4531, es4533, ck4534, rfl, (hS.meet [1, 2, 3, 4, 5, 6, 7] (by decide) ⟨rfl, rfl, rfl, rfl, rfl, rfl, rfl, rfl, rfl, rfl, rfl, trivial⟩ ⟨rfl, rfl, rfl, rfl, rfl, rfl, rfl, trivial⟩ ⟨⟨2, rfl⟩, ⟨3, rfl⟩, ⟨4, rfl⟩, ⟨5, rfl⟩, ⟨6, rfl⟩, ⟨0, rfl⟩, ⟨8, rfl⟩, ⟨9, rfl⟩, ⟨10, rfl⟩, ⟨11, rfl⟩, trivial⟩)⟩
                · replace hM := cf hb4604 hM
                  rcases bool2 ((g4062 : Int) == 1) with hb4607 | hb4607
                  · replace hM := ct hb4607 hM
                    refine dy 1 (v := .pointer (some ⟨b2162, 0 + 1 * 1, none⟩)) rfl (by kernel_rfl) (by kernel_rfl) (by kernel_rfl) rfl hQ hS (y_aidx (c := 1) hS ar85 ty84 rfl rfl hb4607 rfl) rfl rfl rfl fun a hS => ?_
                    refine dy (l := []) 2 (v := .map (some b2153)) rfl (by kernel_rfl) (by kernel_rfl) (by kernel_rfl) (by kernel_rfl) hQ hS (y_load hS rfl ty84 7 rfl eo_nil (us := [.map (some b2153)]) rfl rfl (fun _ => rfl)) rfl rfl rfl fun a hS => ?_
                    refine dy 3 (v := .pointer (some ⟨b4589, 0 + 0, none⟩)) rfl (by kernel_rfl) (by kernel_rfl) (by kernel_rfl) rfl hQ hS (y_fld hS rfl fl88_0) rfl rfl rfl fun a hS => ?_
                    refine dy (l := []) 4 (v := .agg #[.int .i64 e4583.Key.Kind, .string e4583.Key.Text]) rfl (by kernel_rfl) (by kernel_rfl) (by kernel_rfl) (by kernel_rfl) hQ hS (y_load hS rfl ty26 0 rfl eo_nil (us := [.int .i64 e4583.Key.Kind, .string e4583.Key.Text]) rfl rfl (fun h => by cases h)) rfl rfl rfl fun a hS => ?_
                    refine dy 5 (v := .pointer (some ⟨b4589, 0 + 2, none⟩)) rfl (by kernel_rfl) (by kernel_rfl) (by kernel_rfl) rfl hQ hS (y_fld hS rfl fl88_1) rfl rfl rfl fun a hS => ?_
                    refine dy (l := []) 6 (v := .string e4583.Value) rfl (by kernel_rfl) (by kernel_rfl) (by kernel_rfl) (by kernel_rfl) hQ hS (y_load hS rfl ty9 0 rfl eo_nil (us := [.string e4583.Value]) rfl rfl (fun _ => rfl)) rfl rfl rfl fun a hS => ?_
                    refine wpE_one (i := 7) rfl (by kernel_rfl) rfl (k_mput hS mp84 kt_KeyD 4 rfl 7 rfl (c := [.int .i64 e4583.Key.Kind, .string e4583.Key.Text]) (cv := [.string e4583.Value]) (key := e4583.Key) (val := e4583.Value) rfl rfl rfl rfl rfl fun es4608 ck4609 w hk hS => ⟨stM rfl hk etAny, ?_⟩)
                    refine wpE_done (by kernel_rfl) ?_ _
                    try simp only [Exit.then, Exit.inBlock, ↓reduceIte, Nat.reduceEqDiff]
                    refine hK503 _ _ ?_
                    refine r_list ?_
                    refine wl rfl (ky (v := .int .i64 (IntKind.i64.wrap (g4522 + 1))) hS (y_int hS rfl rfl rfl) rfl rfl fun a hS => ?_)
                    refine wl rfl (ky (v := .int .i64 (IntKind.i64.wrap (g4522 + 1))) hS (y_move hS rfl) rfl rfl fun a hS => ?_)
                    refine wpList_nil ?_
                    try simp only [Exit.then, Exit.inBlock, ↓reduceIte, Nat.reduceEqDiff]
                    exact ⟨(IntKind.i64.wrap (g4522 + 1), get4523, (mput keq_KeyD e4583.Key e4583.Value get4526), get4529, get4532), (Option.some.inj hM).symm, (IntKind.i64.wrap (g4522 + 1)), get4523, (mput keq_KeyD e4583.Key e4583.Value get4526), get4529, get4532, es4524, ck4525, es4608, ck4609, es4530, ck4531, es4533, ck4534, rfl, (hS.meet [1, 2, 3, 4, 5, 6, 7] (by decide) ⟨rfl, rfl, rfl, rfl, rfl, rfl, rfl, rfl, rfl, rfl, rfl, trivial⟩ ⟨rfl, rfl, rfl, rfl, rfl, rfl, rfl, trivial⟩ ⟨⟨2, rfl⟩, ⟨3, rfl⟩, ⟨4, rfl⟩, ⟨5, rfl⟩, ⟨6, rfl⟩, ⟨7, rfl⟩, ⟨0, rfl⟩, ⟨9, rfl⟩, ⟨10, rfl⟩, ⟨11, rfl⟩, trivial⟩)⟩
                  · replace hM := cf hb4607 hM
                    rcases bool2 ((g4062 : Int) == 2) with hb4610 | hb4610
                    · replace hM := ct hb4610 hM
                      refine dy 1 (v := .pointer (some ⟨b2162, 0 + 2 * 1, none⟩)) rfl (by kernel_rfl) (by kernel_rfl) (by kernel_rfl) rfl hQ hS (y_aidx (c := 2) hS ar85 ty84 rfl rfl hb4610 rfl) rfl rfl rfl fun a hS => ?_
                      refine dy (l := []) 2 (v := .map (some b2156)) rfl (by kernel_rfl) (by kernel_rfl) (by kernel_rfl) (by kernel_rfl) hQ hS (y_load hS rfl ty84 7 rfl eo_nil (us := [.map (some b2156)]) rfl rfl (fun _ => rfl)) rfl rfl rfl fun a hS => ?_
                      refine dy 3 (v := .pointer (some ⟨b4589, 0 + 0, none⟩)) rfl (by kernel_rfl) (by kernel_rfl) (by kernel_rfl) rfl hQ hS (y_fld hS rfl fl88_0) rfl rfl rfl fun a hS => ?_
                      refine dy (l := []) 4 (v := .agg #[.int .i64 e4583.Key.Kind, .string e4583.Key.Text]) rfl (by kernel_rfl) (by kernel_rfl) (by kernel_rfl) (by kernel_rfl) hQ hS (y_load hS rfl ty26 0 rfl eo_nil (us := [.int .i64 e4583.Key.Kind, .string e4583.Key.Text]) rfl rfl (fun h => by cases h)) rfl rfl rfl fun a hS => ?_
                      refine dy 5 (v := .pointer (some ⟨b4589, 0 + 2, none⟩)) rfl (by kernel_rfl) (by kernel_rfl) (by kernel_rfl) rfl hQ hS (y_fld hS rfl fl88_1) rfl rfl rfl fun a hS => ?_
                      refine dy (l := []) 6 (v := .string e4583.Value) rfl (by kernel_rfl) (by kernel_rfl) (by kernel_rfl) (by kernel_rfl) hQ hS (y_load hS rfl ty9 0 rfl eo_nil (us := [.string e4583.Value]) rfl rfl (fun _ => rfl)) rfl rfl rfl fun a hS => ?_
                      refine wpE_one (i := 7) rfl (by kernel_rfl) rfl (k_mput hS mp84 kt_KeyD 5 rfl 8 rfl (c := [.int .i64 e4583.Key.Kind, .string e4583.Key.Text]) (cv := [.string e4583.Value]) (key := e4583.Key) (val := e4583.Value) rfl rfl rfl rfl rfl fun es4611 ck4612 w hk hS => ⟨stM rfl hk etAny, ?_⟩)
                      refine wpE_done (by kernel_rfl) ?_ _
                      try simp only [Exit.then, Exit.inBlock, ↓reduceIte, Nat.reduceEqDiff]
                      refine hK503 _ _ ?_
                      refine r_list ?_
                      refine wl rfl (ky (v := .int .i64 (IntKind.i64.wrap (g4522 + 1))) hS (y_int hS rfl rfl rfl) rfl rfl fun a hS => ?_)
                      refine wl rfl (ky (v := .int .i64 (IntKind.i64.wrap (g4522 + 1))) hS (y_move hS rfl) rfl rfl fun a hS => ?_)
                      refine wpList_nil ?_
                      try simp only [Exit.then, Exit.inBlock, ↓reduceIte, Nat.reduceEqDiff]
                      exact ⟨(IntKind.i64.wrap (g4522 + 1), get4523, get4526, (mput keq_KeyD e4583.Key e4583.Value get4529), get4532), (Option.some.inj hM).symm, (IntKind.i64.wrap (g4522 + 1)), get4523, get4526, (mput keq_KeyD e4583.Key e4583.Value get4529), get4532, es4524, ck4525, es4527, ck4528, es4611, ck4612, es4533, ck4534, rfl, (hS.meet [1, 2, 3, 4, 5, 6, 7] (by decide) ⟨rfl, rfl, rfl, rfl, rfl, rfl, rfl, rfl, rfl, rfl, rfl, trivial⟩ ⟨rfl, rfl, rfl, rfl, rfl, rfl, rfl, trivial⟩ ⟨⟨2, rfl⟩, ⟨3, rfl⟩, ⟨4, rfl⟩, ⟨5, rfl⟩, ⟨6, rfl⟩, ⟨7, rfl⟩, ⟨8, rfl⟩, ⟨0, rfl⟩, ⟨10, rfl⟩, ⟨11, rfl⟩, trivial⟩)⟩
                    · replace hM := cf hb4610 hM
                      rcases bool2 ((g4062 : Int) == 3) with hb4613 | hb4613
                      · replace hM := ct hb4613 hM
                        refine dy 1 (v := .pointer (some ⟨b2162, 0 + 3 * 1, none⟩)) rfl (by kernel_rfl) (by kernel_rfl) (by kernel_rfl) rfl hQ hS (y_aidx (c := 3) hS ar85 ty84 rfl rfl hb4613 rfl) rfl rfl rfl fun a hS => ?_
                        refine dy (l := []) 2 (v := .map (some b2159)) rfl (by kernel_rfl) (by kernel_rfl) (by kernel_rfl) (by kernel_rfl) hQ hS (y_load hS rfl ty84 7 rfl eo_nil (us := [.map (some b2159)]) rfl rfl (fun _ => rfl)) rfl rfl rfl fun a hS => ?_
                        refine dy 3 (v := .pointer (some ⟨b4589, 0 + 0, none⟩)) rfl (by kernel_rfl) (by kernel_rfl) (by kernel_rfl) rfl hQ hS (y_fld hS rfl fl88_0) rfl rfl rfl fun a hS => ?_
                        refine dy (l := []) 4 (v := .agg #[.int .i64 e4583.Key.Kind, .string e4583.Key.Text]) rfl (by kernel_rfl) (by kernel_rfl) (by kernel_rfl) (by kernel_rfl) hQ hS (y_load hS rfl ty26 0 rfl eo_nil (us := [.int .i64 e4583.Key.Kind, .string e4583.Key.Text]) rfl rfl (fun h => by cases h)) rfl rfl rfl fun a hS => ?_
                        refine dy 5 (v := .pointer (some ⟨b4589, 0 + 2, none⟩)) rfl (by kernel_rfl) (by kernel_rfl) (by kernel_rfl) rfl hQ hS (y_fld hS rfl fl88_1) rfl rfl rfl fun a hS => ?_
                        refine dy (l := []) 6 (v := .string e4583.Value) rfl (by kernel_rfl) (by kernel_rfl) (by kernel_rfl) (by kernel_rfl) hQ hS (y_load hS rfl ty9 0 rfl eo_nil (us := [.string e4583.Value]) rfl rfl (fun _ => rfl)) rfl rfl rfl fun a hS => ?_
                        refine wpE_one (i := 7) rfl (by kernel_rfl) rfl (k_mput hS mp84 kt_KeyD 6 rfl 9 rfl (c := [.int .i64 e4583.Key.Kind, .string e4583.Key.Text]) (cv := [.string e4583.Value]) (key := e4583.Key) (val := e4583.Value) rfl rfl rfl rfl rfl fun es4614 ck4615 w hk hS => ⟨stM rfl hk etAny, ?_⟩)
                        refine wpE_done (by kernel_rfl) ?_ _
                        try simp only [Exit.then, Exit.inBlock, ↓reduceIte, Nat.reduceEqDiff]
                        refine hK503 _ _ ?_
                        refine r_list ?_
                        refine wl rfl (ky (v := .int .i64 (IntKind.i64.wrap (g4522 + 1))) hS (y_int hS rfl rfl rfl) rfl rfl fun a hS => ?_)
                        refine wl rfl (ky (v := .int .i64 (IntKind.i64.wrap (g4522 + 1))) hS (y_move hS rfl) rfl rfl fun a hS => ?_)
                        refine wpList_nil ?_
                        try simp only [Exit.then, Exit.inBlock, ↓reduceIte, Nat.reduceEqDiff]
                        exact ⟨(IntKind.i64.wrap (g4522 + 1), get4523, get4526, get4529, (mput keq_KeyD e4583.Key e4583.Value get4532)), (Option.some.inj hM).symm, (IntKind.i64.wrap (g4522 + 1)), get4523, get4526, get4529, (mput keq_KeyD e4583.Key e4583.Value get4532), es4524, ck4525, es4527, ck4528, es4530, ck4531, es4614, ck4615, rfl, (hS.meet [1, 2, 3, 4, 5, 6, 7] (by decide) ⟨rfl, rfl, rfl, rfl, rfl, rfl, rfl, rfl, rfl, rfl, rfl, trivial⟩ ⟨rfl, rfl, rfl, rfl, rfl, rfl, rfl, trivial⟩ ⟨⟨2, rfl⟩, ⟨3, rfl⟩, ⟨4, rfl⟩, ⟨5, rfl⟩, ⟨6, rfl⟩, ⟨7, rfl⟩, ⟨8, rfl⟩, ⟨9, rfl⟩, ⟨0, rfl⟩, ⟨11, rfl⟩, trivial⟩)⟩
                      · replace hM := cf hb4613 hM
                        cases hM
              · replace hM := cf hb4582 hM
                refine c_f hS rfl hb4582 ?_
                refine wp_exit ?_
                try simp only [Exit.then, Exit.inBlock, ↓reduceIte, Nat.reduceEqDiff]
                injection hM with hM
                subst hM
                have hr := hf2 _ rfl
                subst hr
                have hM : law39_BranchMerges_j8 g4058 g4062 get4523 get4526 get4529 get4532 = some f1 := hMo2
                exact ⟨get4523, get4526, get4529, get4532, es4524, ck4525, es4527, ck4528, es4530, ck4531, es4533, ck4534, (hS.meet [0, 1, 2, 3, 4, 5, 6] (by decide) ⟨rfl, rfl, rfl, rfl, rfl, rfl, rfl, trivial⟩ ⟨rfl, rfl, rfl, rfl, rfl, rfl, rfl, trivial⟩ ⟨⟨0, rfl⟩, ⟨1, rfl⟩, ⟨2, rfl⟩, ⟨3, rfl⟩, ⟨5, rfl⟩, ⟨6, rfl⟩, ⟨7, rfl⟩, ⟨8, rfl⟩, ⟨9, rfl⟩, trivial⟩), hM⟩
            · rintro a w ⟨get4454, get4457, get4460, get4463, es4455, ck4456, es4458, ck4459, es4461, ck4462, es4464, ck4465, hS, hM⟩
              unfold law39_BranchMerges_j8 at hM
              refine r_list ?_
              refine wl rfl (ky (v := .int .i64 (IntKind.i64.wrap (g4062 + 1))) hS (y_int hS rfl rfl rfl) rfl rfl fun a hS => ?_)
              refine wl rfl (ky (v := .int .i64 (IntKind.i64.wrap (g4062 + 1))) hS (y_move hS rfl) rfl rfl fun a hS => ?_)
              refine wpList_nil ?_
              try simp only [Exit.then, Exit.inBlock, ↓reduceIte, Nat.reduceEqDiff]
              exact ⟨(g4058, IntKind.i64.wrap (g4062 + 1), get4454, get4457, get4460, get4463), (Option.some.inj hM).symm, g4058, (IntKind.i64.wrap (g4062 + 1)), get4454, get4457, get4460, get4463, v4059, cl4060, es4455, ck4456, es4458, ck4459, es4461, ck4462, es4464, ck4465, rfl, (hS.meet [0, 1, 2, 3, 4, 5, 6] (by decide) ⟨rfl, rfl, rfl, rfl, rfl, rfl, rfl, trivial⟩ ⟨rfl, rfl, rfl, rfl, rfl, rfl, rfl, trivial⟩ ⟨⟨0, rfl⟩, ⟨1, rfl⟩, ⟨2, rfl⟩, ⟨3, rfl⟩, ⟨4, rfl⟩, ⟨5, rfl⟩, ⟨6, rfl⟩, ⟨7, rfl⟩, ⟨8, rfl⟩, trivial⟩)⟩
          · replace hM := cf hb4337 hM
            refine c_f hS rfl hb4337 ?_
            refine wp_exit ?_
            try simp only [Exit.then, Exit.inBlock, ↓reduceIte, Nat.reduceEqDiff]
            injection hM with hM
            subst hM
            have hr := hf1 _ rfl
            subst hr
            have hM : law39_BranchMerges_j7 u2105 u2108 u2114 get4063 get4066 get4069 get4072 = some y := hMo1
            exact ⟨get4063, get4066, get4069, get4072, es4064, ck4065, es4067, ck4068, es4070, ck4071, es4073, ck4074, (hS.meet [0, 2, 3, 4, 5, 6] (by decide) ⟨rfl, rfl, rfl, rfl, trivial⟩ ⟨rfl, rfl, rfl, rfl, rfl, rfl, trivial⟩ ⟨⟨0, rfl⟩, ⟨1, rfl⟩, ⟨2, rfl⟩, ⟨4, rfl⟩, ⟨5, rfl⟩, ⟨6, rfl⟩, ⟨7, rfl⟩, ⟨8, rfl⟩, trivial⟩), hM⟩
        · rintro a w ⟨get2830, get2833, get2836, get2839, es2831, ck2832, es2834, ck2835, es2837, ck2838, es2840, ck2841, hS, hM⟩
          unfold law39_BranchMerges_j7 at hM
          refine seq_j (J := fun a w => St W0 No T 209 [(4, vz2106_3), (5, vz2109_3)] [] [SlF R_ChangeD vz2106_3 u2105.1, SlF R_ChangeD vz2109_3 u2108.1, LvF] a w ∧ law39_BranchMerges_j2 u2105 u2108 = some y) ?_ ?_
          · skip
            refine wp_seq_k fun K351 hK351 => ?_
            refine r_list ?_
            refine wl rfl (ky (v := .int .i64 0) hS (y_move hS rfl) rfl rfl fun a hS => ?_)
            refine wpList_nil ?_
            try simp only [Exit.then, Exit.inBlock, ↓reduceIte, Nat.reduceEqDiff]
            refine hK351 _ _ ?_
            refine wp_block ?_
            obtain ⟨r1, hl1, hMo1⟩ := bd hM
            refine wp_lp (fun s : Int => law39_BranchMerges_l6 u2114 get2830 get2833 get2836 get2839 s) (fun s a w => ∃ (g3356 : Int), g3356 = s ∧ St W0 No T 209 [(4, vz2106_3), (5, vz2109_3), (8, vz2115_6), (13, .pointer (some ⟨b2162, 0, none⟩)), (125, .int .i64 g3356)] [.own vz2115_6 26 R_KeyD.size clz2115_7, .obj b2150 (.map es2831 ck2832), .obj b2153 (.map es2834 ck2835), .obj b2156 (.map es2837 ck2838), .obj b2159 (.map es2840 ck2841), .box b2162 [.map (some b2150), .map (some b2153), .map (some b2156), .map (some b2159)] 85] [SlF R_ChangeD vz2106_3 u2105.1, SlF R_ChangeD vz2109_3 u2108.1, RowsF R_KeyD clz2115_7 u2114.2.1, MapF R_KeyD true Rep.str false es2831 get2830, MapF R_KeyD true Rep.str false es2834 get2833, MapF R_KeyD true Rep.str false es2837 get2836, MapF R_KeyD true Rep.str false es2840 get2839, LvF] a w) hl1 ⟨0, rfl, (hS.meet [0, 1, 2, 3, 4, 5] (by decide) ⟨rfl, rfl, rfl, rfl, rfl, trivial⟩ ⟨rfl, rfl, rfl, rfl, rfl, rfl, trivial⟩ ⟨⟨0, rfl⟩, ⟨1, rfl⟩, ⟨2, rfl⟩, ⟨3, rfl⟩, ⟨4, rfl⟩, ⟨5, rfl⟩, ⟨6, rfl⟩, ⟨7, rfl⟩, trivial⟩)⟩ ?_
            rintro s a w f1 ⟨g3356, rfl, hS⟩ hM hf1
            have hM : law39_BranchMerges_l6 u2114 get2830 get2833 get2836 get2839 g3356 = some f1 := hM
            unfold law39_BranchMerges_l6 at hM
            refine wp_seq_k fun K392 hK392 => ?_
            refine r_list ?_
            refine wl rfl (ky (v := .bool (decide ((g3356 : Int) < 6))) hS (y_int hS rfl rfl rfl) rfl rfl fun a hS => ?_)
            refine wpList_nil ?_
            try simp only [Exit.then, Exit.inBlock, ↓reduceIte, Nat.reduceEqDiff]
            refine hK392 _ _ ?_
            refine wp_seq_k fun K393 hK393 => ?_
            rcases bool2 (decide ((g3356 : Int) < 6)) with hb3515 | hb3515
            · replace hM := ct hb3515 hM
              refine c_t hS rfl hb3515 ?_
              refine wp_skip ?_
              try simp only [Exit.then, Exit.inBlock, ↓reduceIte, Nat.reduceEqDiff]
              refine hK393 _ _ ?_
              refine seq_j (J := fun a w => St W0 No T 209 [(4, vz2106_3), (5, vz2109_3), (8, vz2115_6), (13, .pointer (some ⟨b2162, 0, none⟩)), (125, .int .i64 g3356)] [.own vz2115_6 26 R_KeyD.size clz2115_7, .obj b2150 (.map es2831 ck2832), .obj b2153 (.map es2834 ck2835), .obj b2156 (.map es2837 ck2838), .obj b2159 (.map es2840 ck2841), .box b2162 [.map (some b2150), .map (some b2153), .map (some b2156), .map (some b2159)] 85] [SlF R_ChangeD vz2106_3 u2105.1, SlF R_ChangeD vz2109_3 u2108.1, RowsF R_KeyD clz2115_7 u2114.2.1, MapF R_KeyD true Rep.str false es2831 get2830, MapF R_KeyD true Rep.str false es2834 get2833, MapF R_KeyD true Rep.str false es2837 get2836, MapF R_KeyD true Rep.str false es2840 get2839, LvF] a w ∧ law39_BranchMerges_j3 g3356 = some f1) ?_ ?_
              · skip
                refine wp_block ?_
                refine wp_seq_k fun K403 hK403 => ?_
                refine r_list ?_
                refine wl rfl (ky (v := .int .i64 g3356) hS (y_move hS rfl) rfl rfl fun a hS => ?_)
                refine wl rfl (ky (v := .int .i64 g3356) hS (y_assign hS rfl) rfl rfl fun a hS => ?_)
                refine wpList_nil ?_
                try simp only [Exit.then, Exit.inBlock, ↓reduceIte, Nat.reduceEqDiff]
                refine hK403 _ _ ?_
                refine wp_seq_k fun K404 hK404 => ?_
                refine r_list ?_
                refine wl rfl (ky (v := .int .i64 g3356) hS (y_move hS rfl) rfl rfl fun a hS => ?_)
                obtain ⟨u3594, hu3594, hM⟩ := bd hM
                refine wl rfl (k_call hS ci14 rfl rfl (ref23_Cell_c _ _ hS.dlt (hS.get 7 rfl) g3356 _ hu3594) fun _ w hR a hk hA => ?_)
                have he := Eq.symm hR
                subst he
                have hS := hA [] (fun r hr => by cases hr) List.Pairwise.nil
                refine wl rfl (k_alloc hS ze26 rfl fun b3596 hnb3598 a w hk hS => ?_)
                refine wl rfl (k_store hS rfl rfl (us := [.int .i64 u3594.Kind, .string u3594.Text]) rfl ty26 0 rfl rfl rfl (oc rfl (oc rfl on)) fun w hk hS => ?_)
                refine wpList_nil ?_
                try simp only [Exit.then, Exit.inBlock, ↓reduceIte, Nat.reduceEqDiff]
                refine hK404 _ _ ?_
                refine wp_seq_k fun K405 hK405 => ?_
                refine draws [] hS mixed rfl (fun c a d v w h => by cases d <;> exact h) fun w hQ hS => ?_
                refine dy 0 (v := .pointer (some ⟨b2162, 0 + 0 * 1, none⟩)) rfl (by kernel_rfl) (by kernel_rfl) (by kernel_rfl) rfl hQ hS (y_aidx (c := 0) hS ar85 ty84 rfl rfl (by decide) rfl) rfl rfl rfl fun a hS => ?_
                refine dy (l := []) 1 (v := .map (some b2150)) rfl (by kernel_rfl) (by kernel_rfl) (by kernel_rfl) (by kernel_rfl) hQ hS (y_load hS rfl ty84 6 rfl eo_nil (us := [.map (some b2150)]) rfl rfl (fun _ => rfl)) rfl rfl rfl fun a hS => ?_
                refine dy (l := []) 2 (v := .agg #[.int .i64 u3594.Kind, .string u3594.Text]) rfl (by kernel_rfl) (by kernel_rfl) (by kernel_rfl) (by kernel_rfl) hQ hS (y_load hS rfl ty26 0 rfl eo_nil (us := [.int .i64 u3594.Kind, .string u3594.Text]) rfl rfl (fun h => by cases h)) rfl rfl rfl fun a hS => ?_
                obtain ⟨u3635, hu3635, hM⟩ := bd hM
                obtain ⟨cv3636, hr3637, hy3638⟩ := d_looku hS mp84 kt_KeyD 2 rfl 3 rfl (c := [.int .i64 u3594.Kind, .string u3594.Text]) (key := u3594) rfl zv9 (zc := [.string (ByteArray.mk #[])]) rfl rfl hu3635
                obtain rfl := hr3637
                refine dy (l := []) 3 (v := .string u3635) rfl (by kernel_rfl) (by kernel_rfl) (by kernel_rfl) (by kernel_rfl) hQ hS (hy3638 rfl rfl eo_nil) rfl rfl rfl fun a hS => ?_
                refine dy 4 (v := .pointer (some ⟨b2162, 0 + 1 * 1, none⟩)) rfl (by kernel_rfl) (by kernel_rfl) (by kernel_rfl) rfl hQ hS (y_aidx (c := 1) hS ar85 ty84 rfl rfl (by decide) rfl) rfl rfl rfl fun a hS => ?_
                refine dy (l := []) 5 (v := .map (some b2153)) rfl (by kernel_rfl) (by kernel_rfl) (by kernel_rfl) (by kernel_rfl) hQ hS (y_load hS rfl ty84 6 rfl eo_nil (us := [.map (some b2153)]) rfl rfl (fun _ => rfl)) rfl rfl rfl fun a hS => ?_
                refine dy (l := []) 6 (v := .agg #[.int .i64 u3594.Kind, .string u3594.Text]) rfl (by kernel_rfl) (by kernel_rfl) (by kernel_rfl) (by kernel_rfl) hQ hS (y_load hS rfl ty26 0 rfl eo_nil (us := [.int .i64 u3594.Kind, .string u3594.Text]) rfl rfl (fun h => by cases h)) rfl rfl rfl fun a hS => ?_
                obtain ⟨u3639, hu3639, hM⟩ := bd hM
                obtain ⟨cv3640, hr3641, hy3642⟩ := d_looku hS mp84 kt_KeyD 3 rfl 4 rfl (c := [.int .i64 u3594.Kind, .string u3594.Text]) (key := u3594) rfl zv9 (zc := [.string (ByteArray.mk #[])]) rfl rfl hu3639
                obtain rfl := hr3641
                refine dy (l := []) 7 (v := .string u3639) rfl (by kernel_rfl) (by kernel_rfl) (by kernel_rfl) (by kernel_rfl) hQ hS (hy3642 rfl rfl eo_nil) rfl rfl rfl fun a hS => ?_
                refine dy 8 (v := .pointer (some ⟨b2162, 0 + 2 * 1, none⟩)) rfl (by kernel_rfl) (by kernel_rfl) (by kernel_rfl) rfl hQ hS (y_aidx (c := 2) hS ar85 ty84 rfl rfl (by decide) rfl) rfl rfl rfl fun a hS => ?_
                refine dy (l := []) 9 (v := .map (some b2156)) rfl (by kernel_rfl) (by kernel_rfl) (by kernel_rfl) (by kernel_rfl) hQ hS (y_load hS rfl ty84 6 rfl eo_nil (us := [.map (some b2156)]) rfl rfl (fun _ => rfl)) rfl rfl rfl fun a hS => ?_
                refine dy (l := []) 10 (v := .agg #[.int .i64 u3594.Kind, .string u3594.Text]) rfl (by kernel_rfl) (by kernel_rfl) (by kernel_rfl) (by kernel_rfl) hQ hS (y_load hS rfl ty26 0 rfl eo_nil (us := [.int .i64 u3594.Kind, .string u3594.Text]) rfl rfl (fun h => by cases h)) rfl rfl rfl fun a hS => ?_
                obtain ⟨u3643, hu3643, hM⟩ := bd hM
                obtain ⟨cv3644, hr3645, hy3646⟩ := d_looku hS mp84 kt_KeyD 4 rfl 5 rfl (c := [.int .i64 u3594.Kind, .string u3594.Text]) (key := u3594) rfl zv9 (zc := [.string (ByteArray.mk #[])]) rfl rfl hu3643
                obtain rfl := hr3645
                refine dy (l := []) 11 (v := .string u3643) rfl (by kernel_rfl) (by kernel_rfl) (by kernel_rfl) (by kernel_rfl) hQ hS (hy3646 rfl rfl eo_nil) rfl rfl rfl fun a hS => ?_
                refine dy 12 (v := .string u3635) rfl (by kernel_rfl) (by kernel_rfl) (by kernel_rfl) rfl hQ hS (y_assign hS rfl) rfl rfl rfl fun a hS => ?_
                refine dy 13 (v := .string u3639) rfl (by kernel_rfl) (by kernel_rfl) (by kernel_rfl) rfl hQ hS (y_assign hS rfl) rfl rfl rfl fun a hS => ?_
                refine dy 14 (v := .string u3643) rfl (by kernel_rfl) (by kernel_rfl) (by kernel_rfl) rfl hQ hS (y_assign hS rfl) rfl rfl rfl fun a hS => ?_
                refine wpE_done (by kernel_rfl) ?_ _
                try simp only [Exit.then, Exit.inBlock, ↓reduceIte, Nat.reduceEqDiff]
                refine hK405 _ _ ?_
                refine seq_j (J := fun a w => ∃ (clash3651 : Bool), St W0 No T 209 [(4, vz2106_3), (5, vz2109_3), (8, vz2115_6), (13, .pointer (some ⟨b2162, 0, none⟩)), (19, .pointer (some ⟨b3596, 0, none⟩)), (20, .string u3635), (21, .string u3639), (22, .string u3643), (23, .bool clash3651), (125, .int .i64 g3356)] [.own vz2115_6 26 R_KeyD.size clz2115_7, .obj b2150 (.map es2831 ck2832), .obj b2153 (.map es2834 ck2835), .obj b2156 (.map es2837 ck2838), .obj b2159 (.map es2840 ck2841), .box b2162 [.map (some b2150), .map (some b2153), .map (some b2156), .map (some b2159)] 85, .box b3596 [.int .i64 u3594.Kind, .string u3594.Text] 26] [SlF R_ChangeD vz2106_3 u2105.1, SlF R_ChangeD vz2109_3 u2108.1, RowsF R_KeyD clz2115_7 u2114.2.1, MapF R_KeyD true Rep.str false es2831 get2830, MapF R_KeyD true Rep.str false es2834 get2833, MapF R_KeyD true Rep.str false es2837 get2836, MapF R_KeyD true Rep.str false es2840 get2839, LvF] a w ∧ law39_BranchMerges_j5 u2114 get2839 g3356 u3594 u3635 u3639 u3643 clash3651 = some f1) ?_ ?_
                · skip
                  refine r_list ?_
                  refine wl rfl (ky (v := .string u3635) hS (y_move hS rfl) rfl rfl fun a hS => ?_)
                  refine wl rfl (ky (v := .string u3639) hS (y_move hS rfl) rfl rfl fun a hS => ?_)
                  refine wl rfl (ky (v := .bool (!(u3635.toList == u3639.toList))) hS (y_str hS rfl rfl rfl) rfl rfl fun a hS => ?_)
                  refine wl rfl (ky (v := .bool (!(u3635.toList == u3639.toList))) hS (y_move hS rfl) rfl rfl fun a hS => ?_)
                  rcases bool2 (!(u3635.toList == u3639.toList)) with hb3670 | hb3670
                  · replace hM := ct hb3670 hM
                    refine wg hS rfl rfl rfl hb3670 (ky (v := .string u3635) hS (y_move hS rfl) rfl rfl fun a hS => ?_)
                    refine wg hS rfl rfl rfl hb3670 (ky (v := .string u3643) hS (y_move hS rfl) rfl rfl fun a hS => ?_)
                    refine wg hS rfl rfl rfl hb3670 (ky (v := .bool (!(u3635.toList == u3643.toList))) hS (y_str hS rfl rfl rfl) rfl rfl fun a hS => ?_)
                    refine wl rfl (ky (v := .bool (!(u3635.toList == u3643.toList))) hS (y_pickt hS rfl hb3670 rfl) rfl rfl fun a hS => ?_)
                    refine wl rfl (ky (v := .bool (!(u3635.toList == u3643.toList))) hS (y_move hS rfl) rfl rfl fun a hS => ?_)
                    rcases bool2 (!(u3635.toList == u3643.toList)) with hb3671 | hb3671
                    · replace hM := ct hb3671 hM
                      refine wg hS rfl rfl rfl hb3671 (ky (v := .string u3639) hS (y_move hS rfl) rfl rfl fun a hS => ?_)
                      refine wg hS rfl rfl rfl hb3671 (ky (v := .string u3643) hS (y_move hS rfl) rfl rfl fun a hS => ?_)
                      refine wg hS rfl rfl rfl hb3671 (ky (v := .bool (!(u3639.toList == u3643.toList))) hS (y_str hS rfl rfl rfl) rfl rfl fun a hS => ?_)
                      refine wl rfl (ky (v := .bool (!(u3639.toList == u3643.toList))) hS (y_pickt hS rfl hb3671 rfl) rfl rfl fun a hS => ?_)
                      refine wl rfl (ky (v := .bool (!(u3639.toList == u3643.toList))) hS (y_assign hS rfl) rfl rfl fun a hS => ?_)
                      refine wpList_nil ?_
                      try simp only [Exit.then, Exit.inBlock, ↓reduceIte, Nat.reduceEqDiff]
                      exact ⟨(!(u3639.toList == u3643.toList)), (hS.meet [1, 2, 3, 4, 5, 6, 0] (by decide) ⟨rfl, rfl, rfl, rfl, rfl, rfl, rfl, rfl, rfl, rfl, trivial⟩ ⟨rfl, rfl, rfl, rfl, rfl, rfl, rfl, trivial⟩ ⟨⟨0, rfl⟩, ⟨1, rfl⟩, ⟨2, rfl⟩, ⟨3, rfl⟩, ⟨4, rfl⟩, ⟨5, rfl⟩, ⟨6, rfl⟩, ⟨7, rfl⟩, trivial⟩), hM⟩
                    · replace hM := cf hb3671 hM
                      refine wn hS rfl rfl rfl hb3671 rfl rfl fun a hS => ?_
                      refine wn hS rfl rfl rfl hb3671 rfl rfl fun a hS => ?_
                      refine wn hS rfl rfl rfl hb3671 rfl rfl fun a hS => ?_
                      refine wl rfl (ky (v := .bool false) hS (y_pickf hS rfl hb3671 rfl) rfl rfl fun a hS => ?_)
                      refine wl rfl (ky (v := .bool false) hS (y_assign hS rfl) rfl rfl fun a hS => ?_)
                      refine wpList_nil ?_
                      try simp only [Exit.then, Exit.inBlock, ↓reduceIte, Nat.reduceEqDiff]
                      exact ⟨false, (hS.meet [1, 2, 3, 4, 5, 6, 0] (by decide) ⟨rfl, rfl, rfl, rfl, rfl, rfl, rfl, rfl, rfl, rfl, trivial⟩ ⟨rfl, rfl, rfl, rfl, rfl, rfl, rfl, trivial⟩ ⟨⟨0, rfl⟩, ⟨1, rfl⟩, ⟨2, rfl⟩, ⟨3, rfl⟩, ⟨4, rfl⟩, ⟨5, rfl⟩, ⟨6, rfl⟩, ⟨7, rfl⟩, trivial⟩), hM⟩
                  · replace hM := cf hb3670 hM
                    refine wn hS rfl rfl rfl hb3670 rfl rfl fun a hS => ?_
                    refine wn hS rfl rfl rfl hb3670 rfl rfl fun a hS => ?_
                    refine wn hS rfl rfl rfl hb3670 rfl rfl fun a hS => ?_
                    refine wl rfl (ky (v := .bool false) hS (y_pickf hS rfl hb3670 rfl) rfl rfl fun a hS => ?_)
                    refine wl rfl (ky (v := .bool false) hS (y_move hS rfl) rfl rfl fun a hS => ?_)
                    refine wn hS rfl rfl rfl rfl rfl rfl fun a hS => ?_
                    refine wn hS rfl rfl rfl rfl rfl rfl fun a hS => ?_
                    refine wn hS rfl rfl rfl rfl rfl rfl fun a hS => ?_
                    refine wl rfl (ky (v := .bool false) hS (y_pickf hS rfl rfl rfl) rfl rfl fun a hS => ?_)
                    refine wl rfl (ky (v := .bool false) hS (y_assign hS rfl) rfl rfl fun a hS => ?_)
                    refine wpList_nil ?_
                    try simp only [Exit.then, Exit.inBlock, ↓reduceIte, Nat.reduceEqDiff]
                    exact ⟨false, (hS.meet [1, 2, 3, 4, 5, 6, 0] (by decide) ⟨rfl, rfl, rfl, rfl, rfl, rfl, rfl, rfl, rfl, rfl, trivial⟩ ⟨rfl, rfl, rfl, rfl, rfl, rfl, rfl, trivial⟩ ⟨⟨0, rfl⟩, ⟨1, rfl⟩, ⟨2, rfl⟩, ⟨3, rfl⟩, ⟨4, rfl⟩, ⟨5, rfl⟩, ⟨6, rfl⟩, ⟨7, rfl⟩, trivial⟩), hM⟩
                · rintro a w ⟨clash3651, hS, hM⟩
                  unfold law39_BranchMerges_j5 at hM
                  refine wp_seq_k fun K406 hK406 => ?_
                  refine r_list ?_
                  refine wl rfl (ky (v := .string u3639) hS (y_move hS rfl) rfl rfl fun a hS => ?_)
                  refine wl rfl (ky (v := .string u3639) hS (y_assign hS rfl) rfl rfl fun a hS => ?_)
                  refine wpList_nil ?_
                  try simp only [Exit.then, Exit.inBlock, ↓reduceIte, Nat.reduceEqDiff]
                  refine hK406 _ _ ?_
                  refine seq_j (J := fun a w => ∃ (want3653 : ByteArray), St W0 No T 209 [(4, vz2106_3), (5, vz2109_3), (8, vz2115_6), (13, .pointer (some ⟨b2162, 0, none⟩)), (19, .pointer (some ⟨b3596, 0, none⟩)), (23, .bool clash3651), (24, .string want3653), (125, .int .i64 g3356)] [.own vz2115_6 26 R_KeyD.size clz2115_7, .obj b2150 (.map es2831 ck2832), .obj b2153 (.map es2834 ck2835), .obj b2156 (.map es2837 ck2838), .obj b2159 (.map es2840 ck2841), .box b2162 [.map (some b2150), .map (some b2153), .map (some b2156), .map (some b2159)] 85, .box b3596 [.int .i64 u3594.Kind, .string u3594.Text] 26] [SlF R_ChangeD vz2106_3 u2105.1, SlF R_ChangeD vz2109_3 u2108.1, RowsF R_KeyD clz2115_7 u2114.2.1, MapF R_KeyD true Rep.str false es2831 get2830, MapF R_KeyD true Rep.str false es2834 get2833, MapF R_KeyD true Rep.str false es2837 get2836, MapF R_KeyD true Rep.str false es2840 get2839, LvF] a w ∧ law39_BranchMerges_j4 u2114 get2839 g3356 u3594 clash3651 want3653 = some f1) ?_ ?_
                  · skip
                    refine wp_seq_k fun K411 hK411 => ?_
                    refine r_list ?_
                    refine wl rfl (ky (v := .string u3635) hS (y_move hS rfl) rfl rfl fun a hS => ?_)
                    refine wl rfl (ky (v := .string u3639) hS (y_move hS rfl) rfl rfl fun a hS => ?_)
                    refine wl rfl (ky (v := .bool (u3635.toList == u3639.toList)) hS (y_str hS rfl rfl rfl) rfl rfl fun a hS => ?_)
                    refine wpList_nil ?_
                    try simp only [Exit.then, Exit.inBlock, ↓reduceIte, Nat.reduceEqDiff]
                    refine hK411 _ _ ?_
                    rcases bool2 (u3635.toList == u3639.toList) with hb3669 | hb3669
                    · replace hM := ct hb3669 hM
                      refine c_t hS rfl hb3669 ?_
                      refine r_list ?_
                      refine wl rfl (ky (v := .string u3643) hS (y_move hS rfl) rfl rfl fun a hS => ?_)
                      refine wl rfl (ky (v := .string u3643) hS (y_assign hS rfl) rfl rfl fun a hS => ?_)
                      refine wpList_nil ?_
                      try simp only [Exit.then, Exit.inBlock, ↓reduceIte, Nat.reduceEqDiff]
                      exact ⟨u3643, (hS.meet [0, 1, 2, 3, 4, 5, 6] (by decide) ⟨rfl, rfl, rfl, rfl, rfl, rfl, rfl, rfl, trivial⟩ ⟨rfl, rfl, rfl, rfl, rfl, rfl, rfl, trivial⟩ ⟨⟨0, rfl⟩, ⟨1, rfl⟩, ⟨2, rfl⟩, ⟨3, rfl⟩, ⟨4, rfl⟩, ⟨5, rfl⟩, ⟨6, rfl⟩, ⟨7, rfl⟩, trivial⟩), hM⟩
                    · replace hM := cf hb3669 hM
                      refine c_f hS rfl hb3669 ?_
                      refine wp_skip ?_
                      try simp only [Exit.then, Exit.inBlock, ↓reduceIte, Nat.reduceEqDiff]
                      exact ⟨u3639, (hS.meet [0, 1, 2, 3, 4, 5, 6] (by decide) ⟨rfl, rfl, rfl, rfl, rfl, rfl, rfl, rfl, trivial⟩ ⟨rfl, rfl, rfl, rfl, rfl, rfl, rfl, trivial⟩ ⟨⟨0, rfl⟩, ⟨1, rfl⟩, ⟨2, rfl⟩, ⟨3, rfl⟩, ⟨4, rfl⟩, ⟨5, rfl⟩, ⟨6, rfl⟩, ⟨7, rfl⟩, trivial⟩), hM⟩
                  · rintro a w ⟨want3653, hS, hM⟩
                    unfold law39_BranchMerges_j4 at hM
                    refine wp_seq_k fun K408 hK408 => ?_
                    refine r_list ?_
                    refine wl rfl (ky (v := .bool clash3651) hS (y_move hS rfl) rfl rfl fun a hS => ?_)
                    refine wl rfl (ky (v := vz2115_6) hS (y_move hS rfl) rfl rfl fun a hS => ?_)
                    refine wl rfl (ky (v := .agg #[.int .i64 u3594.Kind, .string u3594.Text]) hS (y_load hS rfl ty26 6 rfl id (us := [.int .i64 u3594.Kind, .string u3594.Text]) rfl rfl (fun h => by cases h)) rfl rfl fun a hS => ?_)
                    have hL := hS
                    replace hL := hL.freeze (R := R_KeyD) 0 rfl 2 rfl
                    obtain ⟨u3661, hu3661, hM⟩ := bd hM
                    refine wl rfl (k_call hS ci42 rfl rfl (ref23_Has_c _ _ hL.dlt u2114.2.1 u3594 _ (hL.get 0 rfl) _ hu3661) fun _ w hR a hk hA => ?_)
                    have he := Eq.symm hR
                    subst he
                    have hS := hA [] (fun r hr => by cases hr) List.Pairwise.nil
                    refine wl rfl (ky (v := .bool (clash3651 != u3661)) hS (y_bool hS rfl rfl Tryd.underlying4 (.inr ⟨rfl, rfl⟩)) rfl rfl fun a hS => ?_)
                    refine wl rfl (ky (v := .bool (clash3651 != u3661)) hS (y_move hS rfl) rfl rfl fun a hS => ?_)
                    rcases bool2 (clash3651 != u3661) with hb3663 | hb3663
                    · replace hM := ct hb3663 hM
                      refine wn hS rfl rfl rfl hb3663 rfl rfl fun a hS => ?_
                      refine wn hS rfl rfl rfl hb3663 rfl rfl fun a hS => ?_
                      refine wn hS rfl rfl rfl hb3663 rfl rfl fun a hS => ?_
                      refine wn hS rfl rfl rfl hb3663 rfl rfl fun a hS => ?_
                      refine wn hS rfl rfl rfl hb3663 rfl rfl fun a hS => ?_
                      refine wn hS rfl rfl rfl hb3663 rfl rfl fun a hS => ?_
                      refine wl rfl (ky (v := .bool true) hS (y_pickt hS rfl hb3663 rfl) rfl rfl fun a hS => ?_)
                      refine wpList_nil ?_
                      try simp only [Exit.then, Exit.inBlock, ↓reduceIte, Nat.reduceEqDiff]
                      refine hK408 _ _ ?_
                      refine c_t hS rfl rfl ?_
                      refine wp_seq_k fun K409 hK409 => ?_
                      refine r_list ?_
                      refine wl rfl (ky (v := .bool false) hS (y_assign hS rfl) rfl rfl fun a hS => ?_)
                      refine wpList_nil ?_
                      try simp only [Exit.then, Exit.inBlock, ↓reduceIte, Nat.reduceEqDiff]
                      refine hK409 _ _ ?_
                      refine wp_ret ?_
                      injection hM with hM
                      subst hM
                      have hr := hf1 _ rfl
                      subst hr
                      replace hMo1 := el_out hMo1
                      have hM := hMo1
                      injection hM with hM
                      subst hM
                      try simp only [Exit.then, Exit.inBlock, ↓reduceIte, Nat.reduceEqDiff]
                      refine ret_ok hS Tryd.results10 (res_tmp hS rfl res_nil) ?_
                      exact rfl
                    · replace hM := cf hb3663 hM
                      refine wg hS rfl rfl rfl hb3663 (ky (v := .pointer (some ⟨b2162, 0 + 3 * 1, none⟩)) hS (y_aidx (c := 3) hS ar85 ty84 rfl rfl (by decide) rfl) rfl rfl fun a hS => ?_)
                      refine wg hS rfl rfl rfl hb3663 (ky (v := .map (some b2159)) hS (y_load hS rfl ty84 5 rfl id (us := [.map (some b2159)]) rfl rfl (fun _ => rfl)) rfl rfl fun a hS => ?_)
                      refine wg hS rfl rfl rfl hb3663 (ky (v := .agg #[.int .i64 u3594.Kind, .string u3594.Text]) hS (y_load hS rfl ty26 6 rfl id (us := [.int .i64 u3594.Kind, .string u3594.Text]) rfl rfl (fun h => by cases h)) rfl rfl fun a hS => ?_)
                      obtain ⟨u3664, hu3664, hM⟩ := bd hM
                      obtain ⟨cv3665, hr3666, hy3667⟩ := d_looku hS mp84 kt_KeyD 4 rfl 6 rfl (c := [.int .i64 u3594.Kind, .string u3594.Text]) (key := u3594) rfl zv9 (zc := [.string (ByteArray.mk #[])]) rfl rfl hu3664
                      obtain rfl := hr3666
                      refine wg hS rfl rfl rfl hb3663 (ky (v := .string u3664) hS (hy3667 rfl rfl id) rfl rfl fun a hS => ?_)
                      refine wg hS rfl rfl rfl hb3663 (ky (v := .string want3653) hS (y_move hS rfl) rfl rfl fun a hS => ?_)
                      refine wg hS rfl rfl rfl hb3663 (ky (v := .bool (!(u3664.toList == want3653.toList))) hS (y_str hS rfl rfl rfl) rfl rfl fun a hS => ?_)
                      refine wl rfl (ky (v := .bool (!(u3664.toList == want3653.toList))) hS (y_pickf hS rfl hb3663 rfl) rfl rfl fun a hS => ?_)
                      refine wpList_nil ?_
                      try simp only [Exit.then, Exit.inBlock, ↓reduceIte, Nat.reduceEqDiff]
                      refine hK408 _ _ ?_
                      rcases bool2 (!(u3664.toList == want3653.toList)) with hb3668 | hb3668
                      · replace hM := ct hb3668 hM
                        refine c_t hS rfl hb3668 ?_
                        refine wp_seq_k fun K410 hK410 => ?_
                        refine r_list ?_
                        refine wl rfl (ky (v := .bool false) hS (y_assign hS rfl) rfl rfl fun a hS => ?_)
                        refine wpList_nil ?_
                        try simp only [Exit.then, Exit.inBlock, ↓reduceIte, Nat.reduceEqDiff]
                        refine hK410 _ _ ?_
                        refine wp_ret ?_
                        injection hM with hM
                        subst hM
                        have hr := hf1 _ rfl
                        subst hr
                        replace hMo1 := el_out hMo1
                        have hM := hMo1
                        injection hM with hM
                        subst hM
                        try simp only [Exit.then, Exit.inBlock, ↓reduceIte, Nat.reduceEqDiff]
                        refine ret_ok hS Tryd.results10 (res_tmp hS rfl res_nil) ?_
                        exact rfl
                      · replace hM := cf hb3668 hM
                        refine c_f hS rfl hb3668 ?_
                        refine wp_skip ?_
                        try simp only [Exit.then, Exit.inBlock, ↓reduceIte, Nat.reduceEqDiff]
                        exact ⟨(hS.meet [0, 1, 2, 3, 4, 5] (by decide) ⟨rfl, rfl, rfl, rfl, rfl, trivial⟩ ⟨rfl, rfl, rfl, rfl, rfl, rfl, trivial⟩ ⟨⟨0, rfl⟩, ⟨1, rfl⟩, ⟨2, rfl⟩, ⟨3, rfl⟩, ⟨4, rfl⟩, ⟨5, rfl⟩, ⟨6, rfl⟩, ⟨7, rfl⟩, trivial⟩), hM⟩
              · rintro a w ⟨hS, hM⟩
                unfold law39_BranchMerges_j3 at hM
                refine r_list ?_
                refine wl rfl (ky (v := .int .i64 (IntKind.i64.wrap (g3356 + 1))) hS (y_int hS rfl rfl rfl) rfl rfl fun a hS => ?_)
                refine wl rfl (ky (v := .int .i64 (IntKind.i64.wrap (g3356 + 1))) hS (y_move hS rfl) rfl rfl fun a hS => ?_)
                refine wpList_nil ?_
                try simp only [Exit.then, Exit.inBlock, ↓reduceIte, Nat.reduceEqDiff]
                exact ⟨IntKind.i64.wrap (g3356 + 1), (Option.some.inj hM).symm, (IntKind.i64.wrap (g3356 + 1)), rfl, (hS.meet [0, 1, 2, 3, 4, 5] (by decide) ⟨rfl, rfl, rfl, rfl, rfl, trivial⟩ ⟨rfl, rfl, rfl, rfl, rfl, rfl, trivial⟩ ⟨⟨0, rfl⟩, ⟨1, rfl⟩, ⟨2, rfl⟩, ⟨3, rfl⟩, ⟨4, rfl⟩, ⟨5, rfl⟩, ⟨6, rfl⟩, ⟨7, rfl⟩, trivial⟩)⟩
            · replace hM := cf hb3515 hM
              refine c_f hS rfl hb3515 ?_
              refine wp_exit ?_
              try simp only [Exit.then, Exit.inBlock, ↓reduceIte, Nat.reduceEqDiff]
              injection hM with hM
              subst hM
              have hr := hf1 _ rfl
              subst hr
              replace hMo1 := el_go hMo1
              have hM : law39_BranchMerges_j2 u2105 u2108 = some y := hMo1
              exact ⟨(hS.meet [] (by decide) ⟨rfl, rfl, trivial⟩ trivial ⟨⟨0, rfl⟩, ⟨1, rfl⟩, ⟨7, rfl⟩, trivial⟩), hM⟩
          · rintro a w ⟨hS, hM⟩
            unfold law39_BranchMerges_j2 at hM
            refine wp_seq_k fun K349 hK349 => ?_
            refine r_list ?_
            refine wl rfl (ky (v := vz2106_3) hS (y_move hS rfl) rfl rfl fun a hS => ?_)
            refine wl rfl (ky (v := vz2109_3) hS (y_move hS rfl) rfl rfl fun a hS => ?_)
            refine wl rfl (ky (v := vz2106_3) hS (y_move hS rfl) rfl rfl fun a hS => ?_)
            obtain ⟨u3159, hu3159, hM⟩ := bd hM
            refine wl rfl (k_call hS ci47 rfl rfl (branch_Merge_c _ _ hS.dlt (hS.get 2 rfl) u2105.1 u2108.1 u2105.1 _ _ _ (hS.get 0 rfl) (hS.get 1 rfl) (hS.get 0 rfl) _ hu3159) fun _ w hR a hk hA => ?_)
            obtain ⟨vz3160_4, clz3160_5, vz3160_6, clz3160_7, he, ⟨hOvz3160_4, hFvz3160_4, hRvz3160_4⟩, ⟨hOvz3160_6, hFvz3160_6, hRvz3160_6⟩, hA0⟩ := hR
            replace he := he.symm
            subst he
            have hS := hA [.own vz3160_4 88 R_ChangeD.size clz3160_5, .own vz3160_6 26 R_KeyD.size clz3160_7] (adds2 ⟨hOvz3160_4, by decide⟩ hFvz3160_4 ⟨hOvz3160_6, by decide⟩ hFvz3160_6) (pw2 hA0)
            replace hS := hS.fact (RowsF R_ChangeD clz3160_5 u3159.1) (hRvz3160_4.keep (Kt.refl _ _) (dT_dT _))
            replace hS := hS.fact (RowsF R_KeyD clz3160_7 u3159.2.1) (hRvz3160_6.keep (Kt.refl _ _) (dT_dT _))
            refine wl rfl (ky (v := .tuple #[vz3160_4, vz3160_6, .int .i64 u3159.2.2]) hS (y_move hS rfl) rfl rfl fun a hS => ?_)
            refine wl rfl (ky (v := vz3160_4) hS (y_ex hS rfl rfl) rfl rfl fun a hS => ?_)
            refine wl rfl (ky (v := vz3160_6) hS (y_ex hS rfl rfl) rfl rfl fun a hS => ?_)
            refine wl rfl (ky (v := .int .i64 u3159.2.2) hS (y_ex hS rfl rfl) rfl rfl fun a hS => ?_)
            refine wl rfl (ky (v := vz3160_4) hS (y_assign hS rfl) rfl rfl fun a hS => ?_)
            refine wl rfl (ky (v := vz3160_6) hS (y_assign hS rfl) rfl rfl fun a hS => ?_)
            refine wl rfl (ky (v := .int .i64 u3159.2.2) hS (y_assign hS rfl) rfl rfl fun a hS => ?_)
            refine wpList_nil ?_
            try simp only [Exit.then, Exit.inBlock, ↓reduceIte, Nat.reduceEqDiff]
            refine hK349 _ _ ?_
            refine wp_seq_k fun K350 hK350 => ?_
            refine r_list ?_
            refine wl rfl (ky (v := vz2106_3) hS (y_move hS rfl) rfl rfl fun a hS => ?_)
            refine wl rfl (ky (v := vz2106_3) hS (y_move hS rfl) rfl rfl fun a hS => ?_)
            refine wl rfl (ky (v := vz2109_3) hS (y_move hS rfl) rfl rfl fun a hS => ?_)
            obtain ⟨u3163, hu3163, hM⟩ := bd hM
            refine wl rfl (k_call hS ci47 rfl rfl (branch_Merge_c _ _ hS.dlt (hS.get 4 rfl) u2105.1 u2105.1 u2108.1 _ _ _ (hS.get 2 rfl) (hS.get 2 rfl) (hS.get 3 rfl) _ hu3163) fun _ w hR a hk hA => ?_)
            obtain ⟨vz3164_4, clz3164_5, vz3164_6, clz3164_7, he, ⟨hOvz3164_4, hFvz3164_4, hRvz3164_4⟩, ⟨hOvz3164_6, hFvz3164_6, hRvz3164_6⟩, hA0⟩ := hR
            replace he := he.symm
            subst he
            have hS := hA [.own vz3164_4 88 R_ChangeD.size clz3164_5, .own vz3164_6 26 R_KeyD.size clz3164_7] (adds2 ⟨hOvz3164_4, by decide⟩ hFvz3164_4 ⟨hOvz3164_6, by decide⟩ hFvz3164_6) (pw2 hA0)
            replace hS := hS.fact (RowsF R_ChangeD clz3164_5 u3163.1) (hRvz3164_4.keep (Kt.refl _ _) (dT_dT _))
            replace hS := hS.fact (RowsF R_KeyD clz3164_7 u3163.2.1) (hRvz3164_6.keep (Kt.refl _ _) (dT_dT _))
            refine wl rfl (ky (v := .tuple #[vz3164_4, vz3164_6, .int .i64 u3163.2.2]) hS (y_move hS rfl) rfl rfl fun a hS => ?_)
            refine wl rfl (ky (v := vz3164_4) hS (y_ex hS rfl rfl) rfl rfl fun a hS => ?_)
            refine wl rfl (ky (v := vz3164_6) hS (y_ex hS rfl rfl) rfl rfl fun a hS => ?_)
            refine wl rfl (ky (v := .int .i64 u3163.2.2) hS (y_ex hS rfl rfl) rfl rfl fun a hS => ?_)
            refine wl rfl (ky (v := vz3164_4) hS (y_assign hS rfl) rfl rfl fun a hS => ?_)
            refine wl rfl (ky (v := vz3164_6) hS (y_assign hS rfl) rfl rfl fun a hS => ?_)
            refine wl rfl (ky (v := .int .i64 u3163.2.2) hS (y_assign hS rfl) rfl rfl fun a hS => ?_)
            refine wpList_nil ?_
            try simp only [Exit.then, Exit.inBlock, ↓reduceIte, Nat.reduceEqDiff]
            refine hK350 _ _ ?_
            refine seq_j (J := fun a w => ∃ (g3187 : Bool), St W0 No T 209 [(2, .bool g3187)] [] [LvF] a w ∧ law39_BranchMerges_j1 g3187 = some y) ?_ ?_
            · skip
              refine r_list ?_
              refine wl rfl (ky (v := .int .i64 u3159.2.2) hS (y_move hS rfl) rfl rfl fun a hS => ?_)
              refine wl rfl (ky (v := .bool ((u3159.2.2 : Int) == 0)) hS (y_int hS rfl rfl rfl) rfl rfl fun a hS => ?_)
              refine wl rfl (ky (v := .bool ((u3159.2.2 : Int) == 0)) hS (y_move hS rfl) rfl rfl fun a hS => ?_)
              rcases bool2 ((u3159.2.2 : Int) == 0) with hb3188 | hb3188
              · replace hM := ct hb3188 hM
                refine wg hS rfl rfl rfl hb3188 (ky (v := .int .i64 u3163.2.2) hS (y_move hS rfl) rfl rfl fun a hS => ?_)
                refine wg hS rfl rfl rfl hb3188 (ky (v := .bool ((u3163.2.2 : Int) == 0)) hS (y_int hS rfl rfl rfl) rfl rfl fun a hS => ?_)
                refine wl rfl (ky (v := .bool ((u3163.2.2 : Int) == 0)) hS (y_pickt hS rfl hb3188 rfl) rfl rfl fun a hS => ?_)
                refine wl rfl (ky (v := .bool ((u3163.2.2 : Int) == 0)) hS (y_move hS rfl) rfl rfl fun a hS => ?_)
                rcases bool2 ((u3163.2.2 : Int) == 0) with hb3189 | hb3189
                · replace hM := ct hb3189 hM
                  refine wg hS rfl rfl rfl hb3189 (ky (v := vz3160_4) hS (y_move hS rfl) rfl rfl fun a hS => ?_)
                  refine wg hS rfl rfl rfl hb3189 (ky (v := vz2109_3) hS (y_move hS rfl) rfl rfl fun a hS => ?_)
                  have hL := hS
                  replace hL := hL.freeze (R := R_ChangeD) 2 rfl 3 rfl
                  obtain ⟨u3190, hu3190, hM⟩ := bd hM
                  refine wg hS rfl rfl rfl hb3189 (k_call hS ci48 rfl rfl (ref39_Same_c _ _ hL.dlt u3159.1 u2108.1 _ _ (hL.get 0 rfl) (hL.get 6 rfl) _ hu3190) fun _ w hR a hk hA => ?_)
                  have he := Eq.symm hR
                  subst he
                  have hS := hA [] (fun r hr => by cases hr) List.Pairwise.nil
                  refine wl rfl (ky (v := .bool u3190) hS (y_pickt hS rfl hb3189 rfl) rfl rfl fun a hS => ?_)
                  refine wl rfl (ky (v := .bool u3190) hS (y_move hS rfl) rfl rfl fun a hS => ?_)
                  rcases bool2 (u3190) with hb3192 | hb3192
                  · replace hM := ct hb3192 hM
                    refine wg hS rfl rfl rfl hb3192 (ky (v := vz3164_4) hS (y_move hS rfl) rfl rfl fun a hS => ?_)
                    refine wg hS rfl rfl rfl hb3192 (ky (v := vz2109_3) hS (y_move hS rfl) rfl rfl fun a hS => ?_)
                    have hL := hS
                    replace hL := hL.freeze (R := R_ChangeD) 0 rfl 1 rfl
                    obtain ⟨u3193, hu3193, hM⟩ := bd hM
                    refine wg hS rfl rfl rfl hb3192 (k_call hS ci48 rfl rfl (ref39_Same_c _ _ hL.dlt u3163.1 u2108.1 _ _ (hL.get 0 rfl) (hL.get 6 rfl) _ hu3193) fun _ w hR a hk hA => ?_)
                    have he := Eq.symm hR
                    subst he
                    have hS := hA [] (fun r hr => by cases hr) List.Pairwise.nil
                    refine wl rfl (ky (v := .bool u3193) hS (y_pickt hS rfl hb3192 rfl) rfl rfl fun a hS => ?_)
                    refine wl rfl (ky (v := .bool u3193) hS (y_move hS rfl) rfl rfl fun a hS => ?_)
                    rcases bool2 (u3193) with hb3195 | hb3195
                    · replace hM := ct hb3195 hM
                      obtain ⟨u3196, hu3196, hM⟩ := bd hM
                      refine wg hS rfl rfl rfl hb3195 (k_call hS ci45 rfl rfl (law39_awake_c _ _ hS.dlt (hS.get 6 rfl) _ hu3196) fun _ w hR a hk hA => ?_)
                      have he := Eq.symm hR
                      subst he
                      have hS := hA [] (fun r hr => by cases hr) List.Pairwise.nil
                      refine wl rfl (ky (v := .bool u3196) hS (y_pickt hS rfl hb3195 rfl) rfl rfl fun a hS => ?_)
                      refine wl rfl (ky (v := .bool u3196) hS (y_assign hS rfl) rfl rfl fun a hS => ?_)
                      refine wpList_nil ?_
                      try simp only [Exit.then, Exit.inBlock, ↓reduceIte, Nat.reduceEqDiff]
                      exact ⟨u3196, (hS.meet [] (by decide) ⟨rfl, trivial⟩ trivial ⟨⟨6, rfl⟩, trivial⟩), hM⟩
                    · replace hM := cf hb3195 hM
                      refine wn hS rfl rfl rfl hb3195 rfl rfl fun a hS => ?_
                      refine wl rfl (ky (v := .bool false) hS (y_pickf hS rfl hb3195 rfl) rfl rfl fun a hS => ?_)
                      refine wl rfl (ky (v := .bool false) hS (y_assign hS rfl) rfl rfl fun a hS => ?_)
                      refine wpList_nil ?_
                      try simp only [Exit.then, Exit.inBlock, ↓reduceIte, Nat.reduceEqDiff]
                      exact ⟨false, (hS.meet [] (by decide) ⟨rfl, trivial⟩ trivial ⟨⟨6, rfl⟩, trivial⟩), hM⟩
                  · replace hM := cf hb3192 hM
                    refine wn hS rfl rfl rfl hb3192 rfl rfl fun a hS => ?_
                    refine wn hS rfl rfl rfl hb3192 rfl rfl fun a hS => ?_
                    refine wn hS rfl rfl rfl hb3192 rfl rfl fun a hS => ?_
                    refine wl rfl (ky (v := .bool false) hS (y_pickf hS rfl hb3192 rfl) rfl rfl fun a hS => ?_)
                    refine wl rfl (ky (v := .bool false) hS (y_move hS rfl) rfl rfl fun a hS => ?_)
                    refine wn hS rfl rfl rfl rfl rfl rfl fun a hS => ?_
                    refine wl rfl (ky (v := .bool false) hS (y_pickf hS rfl rfl rfl) rfl rfl fun a hS => ?_)
                    refine wl rfl (ky (v := .bool false) hS (y_assign hS rfl) rfl rfl fun a hS => ?_)
                    refine wpList_nil ?_
                    try simp only [Exit.then, Exit.inBlock, ↓reduceIte, Nat.reduceEqDiff]
                    exact ⟨false, (hS.meet [] (by decide) ⟨rfl, trivial⟩ trivial ⟨⟨6, rfl⟩, trivial⟩), hM⟩
                · replace hM := cf hb3189 hM
                  refine wn hS rfl rfl rfl hb3189 rfl rfl fun a hS => ?_
                  refine wn hS rfl rfl rfl hb3189 rfl rfl fun a hS => ?_
                  refine wn hS rfl rfl rfl hb3189 rfl rfl fun a hS => ?_
                  refine wl rfl (ky (v := .bool false) hS (y_pickf hS rfl hb3189 rfl) rfl rfl fun a hS => ?_)
                  refine wl rfl (ky (v := .bool false) hS (y_move hS rfl) rfl rfl fun a hS => ?_)
                  refine wn hS rfl rfl rfl rfl rfl rfl fun a hS => ?_
                  refine wn hS rfl rfl rfl rfl rfl rfl fun a hS => ?_
                  refine wn hS rfl rfl rfl rfl rfl rfl fun a hS => ?_
                  refine wl rfl (ky (v := .bool false) hS (y_pickf hS rfl rfl rfl) rfl rfl fun a hS => ?_)
                  refine wl rfl (ky (v := .bool false) hS (y_move hS rfl) rfl rfl fun a hS => ?_)
                  refine wn hS rfl rfl rfl rfl rfl rfl fun a hS => ?_
                  refine wl rfl (ky (v := .bool false) hS (y_pickf hS rfl rfl rfl) rfl rfl fun a hS => ?_)
                  refine wl rfl (ky (v := .bool false) hS (y_assign hS rfl) rfl rfl fun a hS => ?_)
                  refine wpList_nil ?_
                  try simp only [Exit.then, Exit.inBlock, ↓reduceIte, Nat.reduceEqDiff]
                  exact ⟨false, (hS.meet [] (by decide) ⟨rfl, trivial⟩ trivial ⟨⟨6, rfl⟩, trivial⟩), hM⟩
              · replace hM := cf hb3188 hM
                refine wn hS rfl rfl rfl hb3188 rfl rfl fun a hS => ?_
                refine wn hS rfl rfl rfl hb3188 rfl rfl fun a hS => ?_
                refine wl rfl (ky (v := .bool false) hS (y_pickf hS rfl hb3188 rfl) rfl rfl fun a hS => ?_)
                refine wl rfl (ky (v := .bool false) hS (y_move hS rfl) rfl rfl fun a hS => ?_)
                refine wn hS rfl rfl rfl rfl rfl rfl fun a hS => ?_
                refine wn hS rfl rfl rfl rfl rfl rfl fun a hS => ?_
                refine wn hS rfl rfl rfl rfl rfl rfl fun a hS => ?_
                refine wl rfl (ky (v := .bool false) hS (y_pickf hS rfl rfl rfl) rfl rfl fun a hS => ?_)
                refine wl rfl (ky (v := .bool false) hS (y_move hS rfl) rfl rfl fun a hS => ?_)
                refine wn hS rfl rfl rfl rfl rfl rfl fun a hS => ?_
                refine wn hS rfl rfl rfl rfl rfl rfl fun a hS => ?_
                refine wn hS rfl rfl rfl rfl rfl rfl fun a hS => ?_
                refine wl rfl (ky (v := .bool false) hS (y_pickf hS rfl rfl rfl) rfl rfl fun a hS => ?_)
                refine wl rfl (ky (v := .bool false) hS (y_move hS rfl) rfl rfl fun a hS => ?_)
                refine wn hS rfl rfl rfl rfl rfl rfl fun a hS => ?_
                refine wl rfl (ky (v := .bool false) hS (y_pickf hS rfl rfl rfl) rfl rfl fun a hS => ?_)
                refine wl rfl (ky (v := .bool false) hS (y_assign hS rfl) rfl rfl fun a hS => ?_)
                refine wpList_nil ?_
                try simp only [Exit.then, Exit.inBlock, ↓reduceIte, Nat.reduceEqDiff]
                exact ⟨false, (hS.meet [] (by decide) ⟨rfl, trivial⟩ trivial ⟨⟨6, rfl⟩, trivial⟩), hM⟩
            · rintro a w ⟨g3187, hS, hM⟩
              unfold law39_BranchMerges_j1 at hM
              refine wp_ret ?_
              injection hM with hM
              subst hM
              try simp only [Exit.then, Exit.inBlock, ↓reduceIte, Nat.reduceEqDiff]
              refine ret_ok hS Tryd.results10 (res_tmp hS rfl res_nil) ?_
              exact rfl
end Go.Proofs.YthpeklnhkkadjaaDoor
