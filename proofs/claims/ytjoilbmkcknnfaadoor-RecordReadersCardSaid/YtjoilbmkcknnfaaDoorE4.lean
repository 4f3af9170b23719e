/- What functions of the program compute; that they do. -/
import Derived.Test.YtjoilbmkcknnfaaDoorTE4
import Derived.Test.YtjoilbmkcknnfaaDoorD1
import Derived.Test.YtjoilbmkcknnfaaDoorE1
import Derived.Test.YtjoilbmkcknnfaaDoorE2
set_option linter.unusedVariables false
set_option linter.unusedSimpArgs false
namespace Go.Proofs.YtjoilbmkcknnfaaDoor
open Go.RowKit
noncomputable def law26_RecordKeeps_j1 : Option Bool := (law26_awake).bind fun u3842 => some (u3842)
noncomputable def law26_RecordKeeps_j2 (k4481 : Int) (l5421 : (List RecordD)) (have5425 : (List (KeyD × RecordD))) (g5428 : (List Int)) (g5430 : Int) : Option (Fl ((List RecordD) × (List (KeyD × RecordD)) × Int × (List Int) × Int) (Fl (Unit) Bool)) := some (.go (l5421, have5425, IntKind.i64.wrap (k4481 + 1), g5428, g5430))
noncomputable def law26_RecordKeeps_l3 (l5515 : (List RecordD)) (have5519 : (List (KeyD × RecordD))) (g5522 : (List Int)) (g5524 : Int) (g5597 : Int) : Option (Fl (Int) (Fl ((List RecordD) × (List (KeyD × RecordD)) × (List Int) × Int) Bool)) := cond (decide ((g5597 : Int) < (l5515.length : Int))) ((getI l5515 g5597).bind fun e5664 => (record_Find l5515 e5664.Key).bind fun u5676 => cond (!(u5676.2)) (some (.out (.out false))) ((ref26_SameOne e5664 (RecordD.mk (KeyD.mk u5676.1.Key.Kind u5676.1.Key.Text) u5676.1.Value u5676.1.Reads u5676.1.Changed u5676.1.Verified u5676.1.Cost u5676.1.Dirty)).bind fun u5716 => cond (!(u5716)) (some (.out (.out false))) ((some ((mget keq_KeyD e5664.Key have5519).getD (RecordD.mk (KeyD.mk (0 : Int) (ByteArray.mk #[])) (ByteArray.mk #[]) [] (0 : Int) (0 : Int) (0 : Int) false))).bind fun u5719 => (ref26_SameOne e5664 u5719).bind fun u5724 => cond (!(u5724)) (some (.out (.out false))) (some (.go (IntKind.i64.wrap (g5597 + 1))))))) (some (.out (.go (l5515, have5519, g5522, g5524))))
noncomputable def law26_RecordKeeps_j4 (k4481 : Int) (l5515 : (List RecordD)) (have5519 : (List (KeyD × RecordD))) (g5522 : (List Int)) (g5524 : Int) : Option (Fl ((List RecordD) × (List (KeyD × RecordD)) × Int × (List Int) × Int) (Fl (Unit) Bool)) := cond (((l5515.length : Int) : Int) != (have5519.length : Int)) (some (.out (.out false))) ((record_ValidList l5515).bind fun u5529 => cond (!(u5529)) (some (.out (.out false))) ((loop (fun s : Int => law26_RecordKeeps_l3 l5515 have5519 g5522 g5524 s) 0).bind fun r => Fl.el r (fun s => law26_RecordKeeps_j2 k4481 s.1 s.2.1 s.2.2.1 s.2.2.2) (fun y => some (.out (.out y)))))
noncomputable def law26_RecordKeeps_j5 (l4474 : (List RecordD)) (have4478 : (List (KeyD × RecordD))) (k4481 : Int) (u5431 : (RecordD × DiceD)) (u5727 : (Int × DiceD)) (g5789 : Bool) : Option (Fl ((List RecordD) × (List (KeyD × RecordD)) × Int × (List Int) × Int) (Fl (Unit) Bool)) := cond g5789 (some (.out (.out false))) ((record_Put l4474 (RecordD.mk (KeyD.mk u5431.1.Key.Kind u5431.1.Key.Text) u5431.1.Value u5431.1.Reads u5431.1.Changed u5431.1.Verified u5431.1.Cost u5431.1.Dirty)).bind fun u5791 => law26_RecordKeeps_j4 k4481 u5791 (mput keq_KeyD (KeyD.mk u5431.1.Key.Kind u5431.1.Key.Text) (RecordD.mk (KeyD.mk u5431.1.Key.Kind u5431.1.Key.Text) u5431.1.Value u5431.1.Reads u5431.1.Changed u5431.1.Verified u5431.1.Cost u5431.1.Dirty) have4478) u5727.2.L u5727.2.At)
noncomputable def law26_RecordKeeps_l6 (l4474 : (List RecordD)) (have4478 : (List (KeyD × RecordD))) (k4481 : Int) (g4482 : (List Int)) (g4484 : Int) : Option (Fl ((List RecordD) × (List (KeyD × RecordD)) × Int × (List Int) × Int) (Fl (Unit) Bool)) := cond (decide ((k4481 : Int) < 20)) ((law26_one (DiceD.mk g4482 g4484)).bind fun u5431 => (law26_one (DiceD.mk u5431.2.L u5431.2.At)).bind fun u5434 => (dice_Next (DiceD.mk u5434.2.L u5434.2.At) 3).bind fun u5727 => cond ((u5727.1 : Int) == 0) ((record_Drop l4474 (KeyD.mk u5431.1.Key.Kind u5431.1.Key.Text)).bind fun u5730 => law26_RecordKeeps_j4 k4481 u5730 (mdel keq_KeyD (KeyD.mk u5431.1.Key.Kind u5431.1.Key.Text) have4478) u5727.2.L u5727.2.At) ((record_Put l4474 (RecordD.mk (KeyD.mk u5431.1.Key.Kind u5431.1.Key.Text) u5431.1.Value u5431.1.Reads u5431.1.Changed u5431.1.Verified u5431.1.Cost u5431.1.Dirty)).bind fun u5753 => (record_Put u5753 (RecordD.mk (KeyD.mk u5434.1.Key.Kind u5434.1.Key.Text) u5434.1.Value u5434.1.Reads u5434.1.Changed u5434.1.Verified u5434.1.Cost u5434.1.Dirty)).bind fun u5756 => (record_Put l4474 (RecordD.mk (KeyD.mk u5434.1.Key.Kind u5434.1.Key.Text) u5434.1.Value u5434.1.Reads u5434.1.Changed u5434.1.Verified u5434.1.Cost u5434.1.Dirty)).bind fun u5777 => (record_Put u5777 (RecordD.mk (KeyD.mk u5431.1.Key.Kind u5431.1.Key.Text) u5431.1.Value u5431.1.Reads u5431.1.Changed u5431.1.Verified u5431.1.Cost u5431.1.Dirty)).bind fun u5780 => cond (!((u5431.1.Key.Kind : Int) == u5434.1.Key.Kind && u5431.1.Key.Text.toList == u5434.1.Key.Text.toList)) ((ref26_Same u5756 u5780).bind fun u5797 => law26_RecordKeeps_j5 l4474 have4478 k4481 u5431 u5727 (!(u5797))) (law26_RecordKeeps_j5 l4474 have4478 k4481 u5431 u5727 false))) (some (.out (.go ())))
noncomputable def law26_RecordKeeps (t_0 : (List Int)) : Option Bool := (mill_Light t_0).bind fun u2560 => cond (!(u2560)) ((law26_awake).bind fun u2563 => some (u2563)) ((mill_Roll t_0).bind fun u2565 => (loop (fun s : (List RecordD) × (List (KeyD × RecordD)) × Int × (List Int) × Int => law26_RecordKeeps_l6 s.1 s.2.1 s.2.2.1 s.2.2.2.1 s.2.2.2.2) (([] : List RecordD), ([] : (List (KeyD × RecordD))), 0, u2565.L, u2565.At)).bind fun r => Fl.el r (fun s => law26_RecordKeeps_j1) (fun y => some (y)))
set_option maxRecDepth 100000 in
set_option maxHeartbeats 4000000 in
theorem law26_RecordKeeps_c (T : Nat → Prop) (W0 : World) (hT : ∀ k, T k → k < W0.heap.size) (hLv : LvP T W0) (t_0 : (List Int)) (v1 : Value) (hv1 : SlR (Rep.int .i64) T W0 v1 t_0) (y : Bool) (hM : law26_RecordKeeps t_0 = some y) : Rets Tryd.prog No 8 [v1] W0 (fun v w' => v = .bool y) := by
  refine enter (c := _) Tryd.func8 rfl T 110 Tryd.ntmps8 hT rfl fun a hS => ?_
  replace hS := hS.fact LvF (LvP.dn hLv)
  replace hS := hS.fact (SlF (Rep.int .i64) v1 t_0) (SlR.dn hv1)
  unfold law26_RecordKeeps at hM
  refine wp_seq_k fun K323 hK323 => ?_
  refine r_list ?_
  refine wl rfl (ky (v := .bool false) hS (y_assign hS rfl) rfl rfl fun a hS => ?_)
  refine wpList_nil ?_
  try simp only [Exit.then, Exit.inBlock, ↓reduceIte, Nat.reduceEqDiff]
  refine hK323 _ _ ?_
  refine wp_seq_k fun K324 hK324 => ?_
  refine wp_seq_k fun K325 hK325 => ?_
  refine r_list ?_
  refine wl rfl (ky (v := v1) hS (y_move hS rfl) rfl rfl fun a hS => ?_)
  obtain ⟨u2560, hu2560, hM⟩ := bd hM
  refine wl rfl (k_call hS ci13 rfl rfl (mill_Light_c _ _ hS.dlt t_0 _ (hS.get 0 rfl) _ hu2560) fun _ w hR a hk hA => ?_)
  have he := Eq.symm hR
  subst he
  have hS := hA [] (fun r hr => by cases hr) List.Pairwise.nil
  refine wl rfl (ky (v := .bool (!(u2560))) hS (y_not hS rfl) rfl rfl fun a hS => ?_)
  refine wpList_nil ?_
  try simp only [Exit.then, Exit.inBlock, ↓reduceIte, Nat.reduceEqDiff]
  refine hK325 _ _ ?_
  rcases bool2 (!(u2560)) with hb2562 | hb2562
  · replace hM := ct hb2562 hM
    refine c_t hS rfl hb2562 ?_
    refine wp_seq_k fun K326 hK326 => ?_
    refine r_list ?_
    obtain ⟨u2563, hu2563, hM⟩ := bd hM
    refine wl rfl (k_call hS ci33 rfl rfl (law26_awake_c _ _ hS.dlt (hS.get 1 rfl) _ hu2563) fun _ w hR a hk hA => ?_)
    have he := Eq.symm hR
    subst he
    have hS := hA [] (fun r hr => by cases hr) List.Pairwise.nil
    refine wl rfl (ky (v := .bool u2563) hS (y_assign hS rfl) rfl rfl fun a hS => ?_)
    refine wpList_nil ?_
    try simp only [Exit.then, Exit.inBlock, ↓reduceIte, Nat.reduceEqDiff]
    refine hK326 _ _ ?_
    refine wp_ret ?_
    injection hM with hM
    subst hM
    try simp only [Exit.then, Exit.inBlock, ↓reduceIte, Nat.reduceEqDiff]
    refine ret_ok hS Tryd.results8 (res_tmp hS rfl res_nil) ?_
    exact rfl
  · replace hM := cf hb2562 hM
    refine c_f hS rfl hb2562 ?_
    refine wp_skip ?_
    try simp only [Exit.then, Exit.inBlock, ↓reduceIte, Nat.reduceEqDiff]
    refine hK324 _ _ ?_
    refine wp_seq_k fun K327 hK327 => ?_
    refine r_list ?_
    refine wl rfl (ky (v := v1) hS (y_move hS rfl) rfl rfl fun a hS => ?_)
    obtain ⟨u2565, hu2565, hM⟩ := bd hM
    refine wl rfl (k_call hS ci34 rfl rfl (mill_Roll_c _ _ hS.dlt t_0 _ (hS.get 0 rfl) _ hu2565) fun _ w hR a hk hA => ?_)
    obtain ⟨bz2566_2, vz2566_3, he, hFbz2566_2, hObz2566_2, hRvz2566_3⟩ := hR
    replace he := he.symm
    subst he
    have hS := hA [.box bz2566_2 [vz2566_3, .int .i64 u2565.At] 98] (adds1 hObz2566_2 (fun k hk => by simp only [Res.dom, Option.some.injEq] at hk; omega)) (pw1 _)
    replace hS := hS.fact (SlF (Rep.int .i64) vz2566_3 u2565.L) (hRvz2566_3.sub (dT_dT _))
    refine wl rfl (ky (v := .pointer (some ⟨bz2566_2, 0, none⟩)) hS (y_assign hS rfl) rfl rfl fun a hS => ?_)
    refine wpList_nil ?_
    try simp only [Exit.then, Exit.inBlock, ↓reduceIte, Nat.reduceEqDiff]
    refine hK327 _ _ ?_
    refine wp_seq_k fun K328 hK328 => ?_
    refine r_list ?_
    refine wl rfl (ky (v := .slice none 0 0) hS (y_assign hS rfl) rfl rfl fun a hS => ?_)
    refine wpList_nil ?_
    try simp only [Exit.then, Exit.inBlock, ↓reduceIte, Nat.reduceEqDiff]
    refine hK328 _ _ ?_
    refine wp_seq_k fun K329 hK329 => ?_
    refine r_list ?_
    refine wl rfl (k_mkmap R_KeyD true R_RecordD true hS rfl fun b2568 hnb2569 a w hk hS => ?_)
    refine wl rfl (ky (v := .map (some b2568)) hS (y_assign hS rfl) rfl rfl fun a hS => ?_)
    refine wpList_nil ?_
    try simp only [Exit.then, Exit.inBlock, ↓reduceIte, Nat.reduceEqDiff]
    refine hK329 _ _ ?_
    refine seq_j (J := fun a w => St W0 No T 110 [] [] [LvF] a w ∧ law26_RecordKeeps_j1 = some y) ?_ ?_
    · skip
      refine wp_seq_k fun K488 hK488 => ?_
      refine r_list ?_
      refine wl rfl (ky (v := .int .i64 0) hS (y_assign hS rfl) rfl rfl fun a hS => ?_)
      refine wpList_nil ?_
      try simp only [Exit.then, Exit.inBlock, ↓reduceIte, Nat.reduceEqDiff]
      refine hK488 _ _ ?_
      refine wp_block ?_
      replace hS := hS.nilRow R_RecordD 54 (by decide)
      obtain ⟨r1, hl1, hMo1⟩ := bd hM
      refine wp_lp (fun s : (List RecordD) × (List (KeyD × RecordD)) × Int × (List Int) × Int => law26_RecordKeeps_l6 s.1 s.2.1 s.2.2.1 s.2.2.2.1 s.2.2.2.2) (fun s a w => ∃ (l4474 : (List RecordD)) (have4478 : (List (KeyD × RecordD))) (k4481 : Int) (g4482 : (List Int)) (g4484 : Int) (v4475 : Value) (cl4476 : (List Value)) (es4479 : (Array MapEntry)) (ck4480 : Nat) (v4483 : Value), (l4474, have4478, k4481, g4482, g4484) = s ∧ St W0 No T 110 [(3, .pointer (some ⟨bz2566_2, 0, none⟩)), (4, v4475), (5, .map (some b2568)), (6, .int .i64 k4481)] [.own v4475 54 R_RecordD.size cl4476, .obj b2568 (.map es4479 ck4480), .box bz2566_2 [v4483, .int .i64 g4484] 98] [RowsF R_RecordD cl4476 l4474, MapF R_KeyD true R_RecordD true es4479 have4478, SlF (Rep.int .i64) v4483 g4482, LvF] a w) hl1 ⟨([] : List RecordD), ([] : (List (KeyD × RecordD))), 0, u2565.L, u2565.At, (.slice none 0 0), ([]), (#[]), 0, vz2566_3, rfl, (hS.meet [0, 1, 2] (by decide) ⟨rfl, rfl, rfl, rfl, trivial⟩ ⟨rfl, rfl, rfl, trivial⟩ ⟨⟨0, rfl⟩, ⟨1, rfl⟩, ⟨2, rfl⟩, ⟨4, rfl⟩, trivial⟩)⟩ ?_
      rintro s a w f1 ⟨l4474, have4478, k4481, g4482, g4484, v4475, cl4476, es4479, ck4480, v4483, rfl, hS⟩ hM hf1
      have hM : law26_RecordKeeps_l6 l4474 have4478 k4481 g4482 g4484 = some f1 := hM
      unfold law26_RecordKeeps_l6 at hM
      refine wp_seq_k fun K645 hK645 => ?_
      refine wp_seq_k fun K646 hK646 => ?_
      refine r_list ?_
      refine wl rfl (ky (v := .int .i64 k4481) hS (y_move hS rfl) rfl rfl fun a hS => ?_)
      refine wl rfl (ky (v := .bool (decide ((k4481 : Int) < 20))) hS (y_int hS rfl rfl rfl) rfl rfl fun a hS => ?_)
      refine wpList_nil ?_
      try simp only [Exit.then, Exit.inBlock, ↓reduceIte, Nat.reduceEqDiff]
      refine hK646 _ _ ?_
      rcases bool2 (decide ((k4481 : Int) < 20)) with hb5116 | hb5116
      · replace hM := ct hb5116 hM
        refine c_t hS rfl hb5116 ?_
        refine wp_skip ?_
        try simp only [Exit.then, Exit.inBlock, ↓reduceIte, Nat.reduceEqDiff]
        refine hK645 _ _ ?_
        refine seq_j (J := fun a w => ∃ (l5421 : (List RecordD)) (have5425 : (List (KeyD × RecordD))) (g5428 : (List Int)) (g5430 : Int) (v5422 : Value) (cl5423 : (List Value)) (es5426 : (Array MapEntry)) (ck5427 : Nat) (v5429 : Value), St W0 No T 110 [(3, .pointer (some ⟨bz2566_2, 0, none⟩)), (4, v5422), (5, .map (some b2568)), (6, .int .i64 k4481)] [.own v5422 54 R_RecordD.size cl5423, .obj b2568 (.map es5426 ck5427), .box bz2566_2 [v5429, .int .i64 g5430] 98] [RowsF R_RecordD cl5423 l5421, MapF R_KeyD true R_RecordD true es5426 have5425, SlF (Rep.int .i64) v5429 g5428, LvF] a w ∧ law26_RecordKeeps_j2 k4481 l5421 have5425 g5428 g5430 = some f1) ?_ ?_
        · skip
          refine wp_block ?_
          refine wp_seq_k fun K685 hK685 => ?_
          refine r_list ?_
          refine wl rfl (ky (v := .pointer (some ⟨bz2566_2, 0, none⟩)) hS (y_move hS rfl) rfl rfl fun a hS => ?_)
          obtain ⟨u5431, hu5431, hM⟩ := bd hM
          refine wl rfl (k_callmr hS ci36 rfl rfl 2 rfl (law26_one_c _ _ (hS.drop 2).dlt (DiceD.mk g4482 g4484) _ _ (hS.boxRow 2 rfl) (hS.notin 2 rfl) (SlR.lent (i := 2) rfl (hS.get 2 rfl)) (LvF.keep (hS.get 3 rfl) (Kt.refl _ _) (fun k hk => .inl ((dT_in (i := 2) rfl k).1 hk))) _ hu5431) fun _ w hR hk => ?_)
          obtain ⟨vz5432_3, clz5432_4, vz5432_5, he, ⟨hOvz5432_3, hFvz5432_3, hRvz5432_3⟩, hrow, hRvz5432_5⟩ := hR
          replace he := he.symm
          subst he
          refine ⟨[vz5432_5, .int .i64 u5431.2.At], [.own vz5432_3 28 R_KeyD.size clz5432_4], hrow, adds1 ⟨hOvz5432_3, by decide⟩ hFvz5432_3, pw1 _, fun a hS => ?_⟩
          replace hS := hS.fact (RowsF R_KeyD clz5432_4 u5431.1.Reads) (hRvz5432_3.keep (Kt.refl _ _) (Nw.back2 (i := 2) rfl [.own vz5432_3 28 R_KeyD.size clz5432_4] _))
          replace hS := hS.fact (SlF (Rep.int .i64) vz5432_5 u5431.2.L) (hRvz5432_5.sub (Nw.back2 (i := 2) rfl [.own vz5432_3 28 R_KeyD.size clz5432_4] _))
          refine wl rfl (ky (v := .pointer (some ⟨bz2566_2, 0, none⟩)) hS (y_move hS rfl) rfl rfl fun a hS => ?_)
          obtain ⟨u5434, hu5434, hM⟩ := bd hM
          refine wl rfl (k_callmr hS ci36 rfl rfl 3 rfl (law26_one_c _ _ (hS.drop 3).dlt (DiceD.mk u5431.2.L u5431.2.At) _ _ (hS.boxRow 3 rfl) (hS.notin 3 rfl) (SlR.lent (i := 3) rfl (hS.get 0 rfl)) (LvF.keep (hS.get 5 rfl) (Kt.refl _ _) (fun k hk => .inl ((dT_in (i := 3) rfl k).1 hk))) _ hu5434) fun _ w hR hk => ?_)
          obtain ⟨vz5435_3, clz5435_4, vz5435_5, he, ⟨hOvz5435_3, hFvz5435_3, hRvz5435_3⟩, hrow, hRvz5435_5⟩ := hR
          replace he := he.symm
          subst he
          refine ⟨[vz5435_5, .int .i64 u5434.2.At], [.own vz5435_3 28 R_KeyD.size clz5435_4], hrow, adds1 ⟨hOvz5435_3, by decide⟩ hFvz5435_3, pw1 _, fun a hS => ?_⟩
          replace hS := hS.fact (RowsF R_KeyD clz5435_4 u5434.1.Reads) (hRvz5435_3.keep (Kt.refl _ _) (Nw.back2 (i := 3) rfl [.own vz5435_3 28 R_KeyD.size clz5435_4] _))
          replace hS := hS.fact (SlF (Rep.int .i64) vz5435_5 u5434.2.L) (hRvz5435_5.sub (Nw.back2 (i := 3) rfl [.own vz5435_3 28 R_KeyD.size clz5435_4] _))
          refine wl rfl (k_alloc hS ze54 rfl fun b5437 hnb5439 a w hk hS => ?_)
          refine wl rfl (k_alloc hS ze54 rfl fun b5440 hnb5442 a w hk hS => ?_)
          refine wl rfl (k_store hS rfl rfl (us := [.int .i64 u5431.1.Key.Kind, .string u5431.1.Key.Text, .string u5431.1.Value, vz5432_3, .int .i64 u5431.1.Changed, .int .i64 u5431.1.Verified, .int .i64 u5431.1.Cost, .bool u5431.1.Dirty]) rfl ty54 1 rfl rfl rfl (oc rfl (oc rfl (oc rfl (oc (own_one (hS.own _ (List.mem_of_getElem? (i := 3) rfl)).1) (oc rfl (oc rfl (oc rfl (oc rfl on)))))))) fun w hk hS => ?_)
          refine wl rfl (k_store hS rfl rfl (us := [.int .i64 u5434.1.Key.Kind, .string u5434.1.Key.Text, .string u5434.1.Value, vz5435_3, .int .i64 u5434.1.Changed, .int .i64 u5434.1.Verified, .int .i64 u5434.1.Cost, .bool u5434.1.Dirty]) rfl ty54 0 rfl rfl rfl (oc rfl (oc rfl (oc rfl (oc (own_one (hS.own _ (List.mem_of_getElem? (i := 2) rfl)).1) (oc rfl (oc rfl (oc rfl (oc rfl on)))))))) fun w hk hS => ?_)
          refine wpList_nil ?_
          try simp only [Exit.then, Exit.inBlock, ↓reduceIte, Nat.reduceEqDiff]
          refine hK685 _ _ ?_
          refine seq_j (J := fun a w => ∃ (l5515 : (List RecordD)) (have5519 : (List (KeyD × RecordD))) (g5522 : (List Int)) (g5524 : Int) (v5516 : Value) (cl5517 : (List Value)) (es5520 : (Array MapEntry)) (ck5521 : Nat) (v5523 : Value), St W0 No T 110 [(3, .pointer (some ⟨bz2566_2, 0, none⟩)), (4, v5516), (5, .map (some b2568)), (6, .int .i64 k4481)] [.own v5516 54 R_RecordD.size cl5517, .obj b2568 (.map es5520 ck5521), .box bz2566_2 [v5523, .int .i64 g5524] 98] [RowsF R_RecordD cl5517 l5515, MapF R_KeyD true R_RecordD true es5520 have5519, SlF (Rep.int .i64) v5523 g5522, LvF] a w ∧ law26_RecordKeeps_j4 k4481 l5515 have5519 g5522 g5524 = some f1) ?_ ?_
          · skip
            refine wp_seq_k fun K725 hK725 => ?_
            refine r_list ?_
            refine wl rfl (ky (v := .pointer (some ⟨bz2566_2, 0, none⟩)) hS (y_move hS rfl) rfl rfl fun a hS => ?_)
            obtain ⟨u5727, hu5727, hM⟩ := bd hM
            refine wl rfl (k_callm hS ci42 rfl rfl 6 rfl (dice_Next_c _ _ (hS.drop 6).dlt (DiceD.mk u5434.2.L u5434.2.At) 3 _ _ (hS.boxRow 6 rfl) (hS.notin 6 rfl) (SlR.lent (i := 6) rfl (hS.get 0 rfl)) _ hu5727) fun _ w hR hk => ?_)
            obtain ⟨vz5728_3, he, hrow, hRvz5728_3⟩ := hR
            replace he := he.symm
            subst he
            refine ⟨[vz5728_3, .int .i64 u5727.2.At], hrow, fun a hS => ?_⟩
            replace hS := hS.fact (SlF (Rep.int .i64) vz5728_3 u5727.2.L) (SlR.back (i := 6) rfl hRvz5728_3)
            refine wl rfl (ky (v := .bool ((u5727.1 : Int) == 0)) hS (y_int hS rfl rfl rfl) rfl rfl fun a hS => ?_)
            refine wpList_nil ?_
            try simp only [Exit.then, Exit.inBlock, ↓reduceIte, Nat.reduceEqDiff]
            refine hK725 _ _ ?_
            rcases bool2 ((u5727.1 : Int) == 0) with hb5729 | hb5729
            · replace hM := ct hb5729 hM
              refine c_t hS rfl hb5729 ?_
              refine wp_seq_k fun K726 hK726 => ?_
              refine r_list ?_
              refine wl rfl (ky (v := v4475) hS (y_move hS rfl) rfl rfl fun a hS => ?_)
              refine wl rfl (ky (v := .pointer (some ⟨b5437, 0 + 0, none⟩)) hS (y_fld hS rfl fl54_0) rfl rfl fun a hS => ?_)
              refine wl rfl (ky (v := .agg #[.int .i64 u5431.1.Key.Kind, .string u5431.1.Key.Text]) hS (y_load hS rfl ty28 1 rfl id (us := [.int .i64 u5431.1.Key.Kind, .string u5431.1.Key.Text]) rfl rfl (fun h => by cases h)) rfl rfl fun a hS => ?_)
              replace hS := hS.freeze (R := R_RecordD) 4 rfl 5 rfl
              obtain ⟨u5730, hu5730, hM⟩ := bd hM
              refine wl rfl (k_call hS ci40 rfl rfl (record_Drop_c _ _ hS.dlt (hS.get 9 rfl) l4474 (KeyD.mk u5431.1.Key.Kind u5431.1.Key.Text) _ (hS.get 0 rfl) _ hu5730) fun _ w hR a hk hA => ?_)
              obtain ⟨vz5731_2, clz5731_3, he, ⟨hOvz5731_2, hFvz5731_2, hRvz5731_2⟩⟩ := hR
              replace he := he.symm
              subst he
              have hS := hA [.own vz5731_2 54 R_RecordD.size clz5731_3] (adds1 ⟨hOvz5731_2, by decide⟩ hFvz5731_2) (pw1 _)
              replace hS := hS.fact (RowsF R_RecordD clz5731_3 u5730) (hRvz5731_2.keep (Kt.refl _ _) (dT_dT _))
              refine wl rfl (ky (v := vz5731_2) hS (y_assign hS rfl) rfl rfl fun a hS => ?_)
              refine wpList_nil ?_
              try simp only [Exit.then, Exit.inBlock, ↓reduceIte, Nat.reduceEqDiff]
              refine hK726 _ _ ?_
              refine r_list ?_
              refine wl rfl (ky (v := .map (some b2568)) hS (y_move hS rfl) rfl rfl fun a hS => ?_)
              refine wl rfl (ky (v := .pointer (some ⟨b5437, 0 + 0, none⟩)) hS (y_fld hS rfl fl54_0) rfl rfl fun a hS => ?_)
              refine wl rfl (ky (v := .agg #[.int .i64 u5431.1.Key.Kind, .string u5431.1.Key.Text]) hS (y_load hS rfl ty28 2 rfl id (us := [.int .i64 u5431.1.Key.Kind, .string u5431.1.Key.Text]) rfl rfl (fun h => by cases h)) rfl rfl fun a hS => ?_)
              refine wl rfl (k_mdel hS mp60 kt_KeyD 5 rfl 8 rfl (c := [.int .i64 u5431.1.Key.Kind, .string u5431.1.Key.Text]) (key := (KeyD.mk u5431.1.Key.Kind u5431.1.Key.Text)) rfl rfl rfl fun es5733 ck5734 w hk hS => ?_)
              refine wpList_nil ?_
              try simp only [Exit.then, Exit.inBlock, ↓reduceIte, Nat.reduceEqDiff]
              exact ⟨u5730, (mdel keq_KeyD (KeyD.mk u5431.1.Key.Kind u5431.1.Key.Text) have4478), u5727.2.L, u5727.2.At, vz5731_2, clz5731_3, es5733, ck5734, vz5728_3, (hS.meet [0, 5, 6] (by decide) ⟨rfl, rfl, rfl, rfl, trivial⟩ ⟨rfl, rfl, rfl, trivial⟩ ⟨⟨1, rfl⟩, ⟨0, rfl⟩, ⟨3, rfl⟩, ⟨11, rfl⟩, trivial⟩), hM⟩
            · replace hM := cf hb5729 hM
              refine c_f hS rfl hb5729 ?_
              refine wp_seq_k fun K727 hK727 => ?_
              refine draws [] hS mixed rfl (fun c a d v w h => by cases d <;> exact h) fun w hQ hS => ?_
              refine dy 0 (v := v4475) rfl (by kernel_rfl) (by kernel_rfl) (by kernel_rfl) rfl hQ hS (y_move hS rfl) rfl rfl rfl fun a hS => ?_
              refine dy (l := []) 1 (v := .agg #[.int .i64 u5431.1.Key.Kind, .string u5431.1.Key.Text, .string u5431.1.Value, vz5432_3, .int .i64 u5431.1.Changed, .int .i64 u5431.1.Verified, .int .i64 u5431.1.Cost, .bool u5431.1.Dirty]) rfl (by kernel_rfl) (by kernel_rfl) (by kernel_rfl) (by kernel_rfl) hQ hS (y_load hS rfl ty54 1 rfl eo_nil (us := [.int .i64 u5431.1.Key.Kind, .string u5431.1.Key.Text, .string u5431.1.Value, vz5432_3, .int .i64 u5431.1.Changed, .int .i64 u5431.1.Verified, .int .i64 u5431.1.Cost, .bool u5431.1.Dirty]) rfl rfl (fun h => by cases h)) rfl rfl rfl fun a hS => ?_
              refine dy (l := []) 3 (v := .agg #[.int .i64 u5434.1.Key.Kind, .string u5434.1.Key.Text, .string u5434.1.Value, vz5435_3, .int .i64 u5434.1.Changed, .int .i64 u5434.1.Verified, .int .i64 u5434.1.Cost, .bool u5434.1.Dirty]) rfl (by kernel_rfl) (by kernel_rfl) (by kernel_rfl) (by kernel_rfl) hQ hS (y_load hS rfl ty54 0 rfl eo_nil (us := [.int .i64 u5434.1.Key.Kind, .string u5434.1.Key.Text, .string u5434.1.Value, vz5435_3, .int .i64 u5434.1.Changed, .int .i64 u5434.1.Verified, .int .i64 u5434.1.Cost, .bool u5434.1.Dirty]) rfl rfl (fun h => by cases h)) rfl rfl rfl fun a hS => ?_
              replace hS := hS.freeze (R := R_RecordD) 4 rfl 5 rfl
              replace hS := hS.freeze (R := R_KeyD) 3 rfl 5 rfl
              obtain ⟨u5753, hu5753, hM⟩ := bd hM
              refine wpE_one (i := 2) rfl (by kernel_rfl) rfl (k_call hS ci38 rfl rfl (record_Put_c _ _ hS.dlt (hS.get 10 rfl) l4474 (RecordD.mk (KeyD.mk u5431.1.Key.Kind u5431.1.Key.Text) u5431.1.Value u5431.1.Reads u5431.1.Changed u5431.1.Verified u5431.1.Cost u5431.1.Dirty) _ _ (hS.get 1 rfl) (hS.get 0 rfl) _ hu5753) fun _ w hR a hk hA => ⟨stN (hk), ?_⟩)
              obtain ⟨vz5754_3, clz5754_4, he, ⟨hOvz5754_3, hFvz5754_3, hRvz5754_3⟩⟩ := hR
              replace he := he.symm
              subst he
              have hS := hA [.own vz5754_3 54 R_RecordD.size clz5754_4] (adds1 ⟨hOvz5754_3, by decide⟩ hFvz5754_3) (pw1 _)
              replace hS := hS.fact (RowsF R_RecordD clz5754_4 u5753) (hRvz5754_3.keep (Kt.refl _ _) (dT_dT _))
              replace hS := hS.freeze (R := R_RecordD) 0 rfl 0 rfl
              replace hS := hS.freeze (R := R_KeyD) 2 rfl 6 rfl
              obtain ⟨u5756, hu5756, hM⟩ := bd hM
              refine wpE_one (i := 4) rfl (by kernel_rfl) rfl (k_call hS ci38 rfl rfl (record_Put_c _ _ hS.dlt (hS.get 13 rfl) u5753 (RecordD.mk (KeyD.mk u5434.1.Key.Kind u5434.1.Key.Text) u5434.1.Value u5434.1.Reads u5434.1.Changed u5434.1.Verified u5434.1.Cost u5434.1.Dirty) _ _ (hS.get 1 rfl) (hS.get 0 rfl) _ hu5756) fun _ w hR a hk hA => ⟨stN (hk), ?_⟩)
              obtain ⟨vz5757_3, clz5757_4, he, ⟨hOvz5757_3, hFvz5757_3, hRvz5757_3⟩⟩ := hR
              replace he := he.symm
              subst he
              have hS := hA [.own vz5757_3 54 R_RecordD.size clz5757_4] (adds1 ⟨hOvz5757_3, by decide⟩ hFvz5757_3) (pw1 _)
              replace hS := hS.fact (RowsF R_RecordD clz5757_4 u5756) (hRvz5757_3.keep (Kt.refl _ _) (dT_dT _))
              refine dy 5 (v := vz5757_3) rfl (by kernel_rfl) (by kernel_rfl) (by kernel_rfl) rfl hQ hS (y_assign hS rfl) rfl rfl rfl fun a hS => ?_
              refine wpE_done (by kernel_rfl) ?_ _
              try simp only [Exit.then, Exit.inBlock, ↓reduceIte, Nat.reduceEqDiff]
              refine hK727 _ _ ?_
              refine wp_seq_k fun K728 hK728 => ?_
              refine draws [] hS mixed rfl (fun c a d v w h => by cases d <;> exact h) fun w hQ hS => ?_
              refine dy 0 (v := v4475) rfl (by kernel_rfl) (by kernel_rfl) (by kernel_rfl) rfl hQ hS (y_move hS rfl) rfl rfl rfl fun a hS => ?_
              refine dy (l := []) 1 (v := .agg #[.int .i64 u5434.1.Key.Kind, .string u5434.1.Key.Text, .string u5434.1.Value, vz5435_3, .int .i64 u5434.1.Changed, .int .i64 u5434.1.Verified, .int .i64 u5434.1.Cost, .bool u5434.1.Dirty]) rfl (by kernel_rfl) (by kernel_rfl) (by kernel_rfl) (by kernel_rfl) hQ hS (y_load hS rfl ty54 1 rfl eo_nil (us := [.int .i64 u5434.1.Key.Kind, .string u5434.1.Key.Text, .string u5434.1.Value, vz5435_3, .int .i64 u5434.1.Changed, .int .i64 u5434.1.Verified, .int .i64 u5434.1.Cost, .bool u5434.1.Dirty]) rfl rfl (fun h => by cases h)) rfl rfl rfl fun a hS => ?_
              refine dy (l := []) 3 (v := .agg #[.int .i64 u5431.1.Key.Kind, .string u5431.1.Key.Text, .string u5431.1.Value, vz5432_3, .int .i64 u5431.1.Changed, .int .i64 u5431.1.Verified, .int .i64 u5431.1.Cost, .bool u5431.1.Dirty]) rfl (by kernel_rfl) (by kernel_rfl) (by kernel_rfl) (by kernel_rfl) hQ hS (y_load hS rfl ty54 2 rfl eo_nil (us := [.int .i64 u5431.1.Key.Kind, .string u5431.1.Key.Text, .string u5431.1.Value, vz5432_3, .int .i64 u5431.1.Changed, .int .i64 u5431.1.Verified, .int .i64 u5431.1.Cost, .bool u5431.1.Dirty]) rfl rfl (fun h => by cases h)) rfl rfl rfl fun a hS => ?_
              obtain ⟨u5777, hu5777, hM⟩ := bd hM
              refine wpE_one (i := 2) rfl (by kernel_rfl) rfl (k_call hS ci38 rfl rfl (record_Put_c _ _ hS.dlt (hS.get 14 rfl) l4474 (RecordD.mk (KeyD.mk u5434.1.Key.Kind u5434.1.Key.Text) u5434.1.Value u5434.1.Reads u5434.1.Changed u5434.1.Verified u5434.1.Cost u5434.1.Dirty) _ _ (hS.get 5 rfl) (hS.get 1 rfl) _ hu5777) fun _ w hR a hk hA => ⟨stN (hk), ?_⟩)
              obtain ⟨vz5778_3, clz5778_4, he, ⟨hOvz5778_3, hFvz5778_3, hRvz5778_3⟩⟩ := hR
              replace he := he.symm
              subst he
              have hS := hA [.own vz5778_3 54 R_RecordD.size clz5778_4] (adds1 ⟨hOvz5778_3, by decide⟩ hFvz5778_3) (pw1 _)
              replace hS := hS.fact (RowsF R_RecordD clz5778_4 u5777) (hRvz5778_3.keep (Kt.refl _ _) (dT_dT _))
              replace hS := hS.freeze (R := R_RecordD) 0 rfl 0 rfl
              obtain ⟨u5780, hu5780, hM⟩ := bd hM
              refine wpE_one (i := 4) rfl (by kernel_rfl) rfl (k_call hS ci38 rfl rfl (record_Put_c _ _ hS.dlt (hS.get 16 rfl) u5777 (RecordD.mk (KeyD.mk u5431.1.Key.Kind u5431.1.Key.Text) u5431.1.Value u5431.1.Reads u5431.1.Changed u5431.1.Verified u5431.1.Cost u5431.1.Dirty) _ _ (hS.get 0 rfl) (hS.get 6 rfl) _ hu5780) fun _ w hR a hk hA => ⟨stN (hk), ?_⟩)
              obtain ⟨vz5781_3, clz5781_4, he, ⟨hOvz5781_3, hFvz5781_3, hRvz5781_3⟩⟩ := hR
              replace he := he.symm
              subst he
              have hS := hA [.own vz5781_3 54 R_RecordD.size clz5781_4] (adds1 ⟨hOvz5781_3, by decide⟩ hFvz5781_3) (pw1 _)
              replace hS := hS.fact (RowsF R_RecordD clz5781_4 u5780) (hRvz5781_3.keep (Kt.refl _ _) (dT_dT _))
              refine dy 5 (v := vz5781_3) rfl (by kernel_rfl) (by kernel_rfl) (by kernel_rfl) rfl hQ hS (y_assign hS rfl) rfl rfl rfl fun a hS => ?_
              refine wpE_done (by kernel_rfl) ?_ _
              try simp only [Exit.then, Exit.inBlock, ↓reduceIte, Nat.reduceEqDiff]
              refine hK728 _ _ ?_
              refine wp_seq_k fun K729 hK729 => ?_
              refine seq_j (J := fun a w => ∃ (g5789 : Bool), St W0 No T 110 [(3, .pointer (some ⟨bz2566_2, 0, none⟩)), (4, v4475), (5, .map (some b2568)), (6, .int .i64 k4481), (7, .pointer (some ⟨b5437, 0, none⟩)), (60, .bool g5789)] [.obj b2568 (.map es4479 ck4480), .box bz2566_2 [vz5728_3, .int .i64 u5727.2.At] 98, .box b5437 [.int .i64 u5431.1.Key.Kind, .string u5431.1.Key.Text, .string u5431.1.Value, vz5432_3, .int .i64 u5431.1.Changed, .int .i64 u5431.1.Verified, .int .i64 u5431.1.Cost, .bool u5431.1.Dirty] 54] [SlF R_RecordD v4475 l4474, MapF R_KeyD true R_RecordD true es4479 have4478, SlF (Rep.int .i64) vz5728_3 u5727.2.L, SlF R_KeyD vz5432_3 u5431.1.Reads, LvF] a w ∧ law26_RecordKeeps_j5 l4474 have4478 k4481 u5431 u5727 g5789 = some f1) ?_ ?_
              · skip
                refine r_list ?_
                refine wl rfl (ky (v := .pointer (some ⟨b5437, 0 + 0, none⟩)) hS (y_fld hS rfl fl54_0) rfl rfl fun a hS => ?_)
                refine wl rfl (ky (v := .agg #[.int .i64 u5431.1.Key.Kind, .string u5431.1.Key.Text]) hS (y_load hS rfl ty28 3 rfl id (us := [.int .i64 u5431.1.Key.Kind, .string u5431.1.Key.Text]) rfl rfl (fun h => by cases h)) rfl rfl fun a hS => ?_)
                refine wl rfl (ky (v := .pointer (some ⟨b5440, 0 + 0, none⟩)) hS (y_fld hS rfl fl54_0) rfl rfl fun a hS => ?_)
                refine wl rfl (ky (v := .agg #[.int .i64 u5434.1.Key.Kind, .string u5434.1.Key.Text]) hS (y_load hS rfl ty28 2 rfl id (us := [.int .i64 u5434.1.Key.Kind, .string u5434.1.Key.Text]) rfl rfl (fun h => by cases h)) rfl rfl fun a hS => ?_)
                refine wl rfl (ky (v := .bool (!((u5431.1.Key.Kind : Int) == u5434.1.Key.Kind && u5431.1.Key.Text.toList == u5434.1.Key.Text.toList))) hS (eq28n hS rfl rfl) rfl rfl fun a hS => ?_)
                refine wl rfl (ky (v := .bool (!((u5431.1.Key.Kind : Int) == u5434.1.Key.Kind && u5431.1.Key.Text.toList == u5434.1.Key.Text.toList))) hS (y_move hS rfl) rfl rfl fun a hS => ?_)
                rcases bool2 (!((u5431.1.Key.Kind : Int) == u5434.1.Key.Kind && u5431.1.Key.Text.toList == u5434.1.Key.Text.toList)) with hb5796 | hb5796
                · replace hM := ct hb5796 hM
                  refine wg hS rfl rfl rfl hb5796 (ky (v := vz5757_3) hS (y_move hS rfl) rfl rfl fun a hS => ?_)
                  refine wg hS rfl rfl rfl hb5796 (ky (v := vz5781_3) hS (y_move hS rfl) rfl rfl fun a hS => ?_)
                  have hL := hS
                  replace hL := hL.freeze (R := R_RecordD) 1 rfl 3 rfl
                  replace hL := hL.freeze (R := R_RecordD) 0 rfl 1 rfl
                  obtain ⟨u5797, hu5797, hM⟩ := bd hM
                  refine wg hS rfl rfl rfl hb5796 (k_call hS ci37 rfl rfl (ref26_Same_c _ _ hL.dlt u5756 u5780 _ _ (hL.get 1 rfl) (hL.get 0 rfl) _ hu5797) fun _ w hR a hk hA => ?_)
                  have he := Eq.symm hR
                  subst he
                  have hS := hA [] (fun r hr => by cases hr) List.Pairwise.nil
                  refine wg hS rfl rfl rfl hb5796 (ky (v := .bool (!(u5797))) hS (y_not hS rfl) rfl rfl fun a hS => ?_)
                  refine wl rfl (ky (v := .bool (!(u5797))) hS (y_pickt hS rfl hb5796 rfl) rfl rfl fun a hS => ?_)
                  refine wpList_nil ?_
                  try simp only [Exit.then, Exit.inBlock, ↓reduceIte, Nat.reduceEqDiff]
                  exact ⟨(!(u5797)), (hS.meet [4, 5, 3] (by decide) ⟨rfl, rfl, rfl, rfl, rfl, rfl, trivial⟩ ⟨rfl, rfl, rfl, trivial⟩ ⟨⟨8, rfl⟩, ⟨15, rfl⟩, ⟨9, rfl⟩, ⟨7, rfl⟩, ⟨17, rfl⟩, trivial⟩), hM⟩
                · replace hM := cf hb5796 hM
                  refine wn hS rfl rfl rfl hb5796 rfl rfl fun a hS => ?_
                  refine wn hS rfl rfl rfl hb5796 rfl rfl fun a hS => ?_
                  refine wn hS rfl rfl rfl hb5796 rfl rfl fun a hS => ?_
                  refine wn hS rfl rfl rfl hb5796 rfl rfl fun a hS => ?_
                  refine wl rfl (ky (v := .bool false) hS (y_pickf hS rfl hb5796 rfl) rfl rfl fun a hS => ?_)
                  refine wpList_nil ?_
                  try simp only [Exit.then, Exit.inBlock, ↓reduceIte, Nat.reduceEqDiff]
                  exact ⟨false, (hS.meet [4, 5, 3] (by decide) ⟨rfl, rfl, rfl, rfl, rfl, rfl, trivial⟩ ⟨rfl, rfl, rfl, trivial⟩ ⟨⟨8, rfl⟩, ⟨15, rfl⟩, ⟨9, rfl⟩, ⟨7, rfl⟩, ⟨17, rfl⟩, trivial⟩), hM⟩
              · rintro a w ⟨g5789, hS, hM⟩
                unfold law26_RecordKeeps_j5 at hM
                rcases bool2 (g5789) with hb5790 | hb5790
                · replace hM := ct hb5790 hM
                  refine c_t hS rfl hb5790 ?_
                  refine wp_seq_k fun K730 hK730 => ?_
                  refine r_list ?_
                  refine wl rfl (ky (v := .bool false) hS (y_assign hS rfl) rfl rfl fun a hS => ?_)
                  refine wpList_nil ?_
                  try simp only [Exit.then, Exit.inBlock, ↓reduceIte, Nat.reduceEqDiff]
                  refine hK730 _ _ ?_
                  refine wp_ret ?_
                  injection hM with hM
                  subst hM
                  have hr := hf1 _ rfl
                  subst hr
                  replace hMo1 := el_out hMo1
                  have hM := hMo1
                  injection hM with hM
                  subst hM
                  try simp only [Exit.then, Exit.inBlock, ↓reduceIte, Nat.reduceEqDiff]
                  refine ret_ok hS Tryd.results8 (res_tmp hS rfl res_nil) ?_
                  exact rfl
                · replace hM := cf hb5790 hM
                  refine c_f hS rfl hb5790 ?_
                  refine wp_skip ?_
                  try simp only [Exit.then, Exit.inBlock, ↓reduceIte, Nat.reduceEqDiff]
                  refine hK729 _ _ ?_
                  refine wp_seq_k fun K731 hK731 => ?_
                  refine r_list ?_
                  refine wl rfl (ky (v := v4475) hS (y_move hS rfl) rfl rfl fun a hS => ?_)
                  refine wl rfl (ky (v := .agg #[.int .i64 u5431.1.Key.Kind, .string u5431.1.Key.Text, .string u5431.1.Value, vz5432_3, .int .i64 u5431.1.Changed, .int .i64 u5431.1.Verified, .int .i64 u5431.1.Cost, .bool u5431.1.Dirty]) hS (y_load hS rfl ty54 2 rfl id (us := [.int .i64 u5431.1.Key.Kind, .string u5431.1.Key.Text, .string u5431.1.Value, vz5432_3, .int .i64 u5431.1.Changed, .int .i64 u5431.1.Verified, .int .i64 u5431.1.Cost, .bool u5431.1.Dirty]) rfl rfl (fun h => by cases h)) rfl rfl fun a hS => ?_)
                  obtain ⟨u5791, hu5791, hM⟩ := bd hM
                  refine wl rfl (k_call hS ci38 rfl rfl (record_Put_c _ _ hS.dlt (hS.get 4 rfl) l4474 (RecordD.mk (KeyD.mk u5431.1.Key.Kind u5431.1.Key.Text) u5431.1.Value u5431.1.Reads u5431.1.Changed u5431.1.Verified u5431.1.Cost u5431.1.Dirty) _ _ (hS.get 0 rfl) (hS.get 3 rfl) _ hu5791) fun _ w hR a hk hA => ?_)
                  obtain ⟨vz5792_3, clz5792_4, he, ⟨hOvz5792_3, hFvz5792_3, hRvz5792_3⟩⟩ := hR
                  replace he := he.symm
                  subst he
                  have hS := hA [.own vz5792_3 54 R_RecordD.size clz5792_4] (adds1 ⟨hOvz5792_3, by decide⟩ hFvz5792_3) (pw1 _)
                  replace hS := hS.fact (RowsF R_RecordD clz5792_4 u5791) (hRvz5792_3.keep (Kt.refl _ _) (dT_dT _))
                  refine wl rfl (ky (v := vz5792_3) hS (y_assign hS rfl) rfl rfl fun a hS => ?_)
                  refine wpList_nil ?_
                  try simp only [Exit.then, Exit.inBlock, ↓reduceIte, Nat.reduceEqDiff]
                  refine hK731 _ _ ?_
                  refine r_list ?_
                  refine wl rfl (ky (v := .map (some b2568)) hS (y_move hS rfl) rfl rfl fun a hS => ?_)
                  refine wl rfl (ky (v := .pointer (some ⟨b5437, 0 + 0, none⟩)) hS (y_fld hS rfl fl54_0) rfl rfl fun a hS => ?_)
                  refine wl rfl (ky (v := .agg #[.int .i64 u5431.1.Key.Kind, .string u5431.1.Key.Text]) hS (y_load hS rfl ty28 3 rfl id (us := [.int .i64 u5431.1.Key.Kind, .string u5431.1.Key.Text]) rfl rfl (fun h => by cases h)) rfl rfl fun a hS => ?_)
                  refine wl rfl (ky (v := .agg #[.int .i64 u5431.1.Key.Kind, .string u5431.1.Key.Text, .string u5431.1.Value, vz5432_3, .int .i64 u5431.1.Changed, .int .i64 u5431.1.Verified, .int .i64 u5431.1.Cost, .bool u5431.1.Dirty]) hS (y_load hS rfl ty54 3 rfl id (us := [.int .i64 u5431.1.Key.Kind, .string u5431.1.Key.Text, .string u5431.1.Value, vz5432_3, .int .i64 u5431.1.Changed, .int .i64 u5431.1.Verified, .int .i64 u5431.1.Cost, .bool u5431.1.Dirty]) rfl rfl (fun h => by cases h)) rfl rfl fun a hS => ?_)
                  refine wl rfl (k_mput hS mp60 kt_KeyD 1 rfl 2 rfl (c := [.int .i64 u5431.1.Key.Kind, .string u5431.1.Key.Text]) (cv := [.int .i64 u5431.1.Key.Kind, .string u5431.1.Key.Text, .string u5431.1.Value, vz5432_3, .int .i64 u5431.1.Changed, .int .i64 u5431.1.Verified, .int .i64 u5431.1.Cost, .bool u5431.1.Dirty]) (key := (KeyD.mk u5431.1.Key.Kind u5431.1.Key.Text)) (val := (RecordD.mk (KeyD.mk u5431.1.Key.Kind u5431.1.Key.Text) u5431.1.Value u5431.1.Reads u5431.1.Changed u5431.1.Verified u5431.1.Cost u5431.1.Dirty)) rfl (⟨_, rfl, (hS.get 4 rfl)⟩) rfl rfl rfl fun es5794 ck5795 w hk hS => ?_)
                  refine wpList_nil ?_
                  try simp only [Exit.then, Exit.inBlock, ↓reduceIte, Nat.reduceEqDiff]
                  exact ⟨u5791, (mput keq_KeyD (KeyD.mk u5431.1.Key.Kind u5431.1.Key.Text) (RecordD.mk (KeyD.mk u5431.1.Key.Kind u5431.1.Key.Text) u5431.1.Value u5431.1.Reads u5431.1.Changed u5431.1.Verified u5431.1.Cost u5431.1.Dirty) have4478), u5727.2.L, u5727.2.At, vz5792_3, clz5792_4, es5794, ck5795, vz5728_3, (hS.meet [0, 1, 2] (by decide) ⟨rfl, rfl, rfl, rfl, trivial⟩ ⟨rfl, rfl, rfl, trivial⟩ ⟨⟨1, rfl⟩, ⟨0, rfl⟩, ⟨4, rfl⟩, ⟨6, rfl⟩, trivial⟩), hM⟩
          · rintro a w ⟨l5515, have5519, g5522, g5524, v5516, cl5517, es5520, ck5521, v5523, hS, hM⟩
            unfold law26_RecordKeeps_j4 at hM
            refine wp_seq_k fun K693 hK693 => ?_
            refine wp_seq_k fun K694 hK694 => ?_
            refine r_list ?_
            refine wl rfl (ky (v := v5516) hS (y_move hS rfl) rfl rfl fun a hS => ?_)
            refine wl rfl (ky (v := .int .i64 (l5515.length : Int)) hS (y_leno (R := R_RecordD) (xs := l5515) hS sl51 rfl 0 rfl 0 rfl) rfl rfl fun a hS => ?_)
            refine wl rfl (ky (v := .map (some b2568)) hS (y_move hS rfl) rfl rfl fun a hS => ?_)
            refine wl rfl (ky (v := .int .i64 (have5519.length : Int)) hS (y_mlen hS mp60 rfl 1 rfl 1 rfl id) rfl rfl fun a hS => ?_)
            refine wl rfl (ky (v := .bool (((l5515.length : Int) : Int) != (have5519.length : Int))) hS (y_int hS rfl rfl rfl) rfl rfl fun a hS => ?_)
            refine wl rfl (ky (v := .bool (((l5515.length : Int) : Int) != (have5519.length : Int))) hS (y_move hS rfl) rfl rfl fun a hS => ?_)
            rcases bool2 (((l5515.length : Int) : Int) != (have5519.length : Int)) with hb5528 | hb5528
            · replace hM := ct hb5528 hM
              refine wn hS rfl rfl rfl hb5528 rfl rfl fun a hS => ?_
              refine wn hS rfl rfl rfl hb5528 rfl rfl fun a hS => ?_
              refine wn hS rfl rfl rfl hb5528 rfl rfl fun a hS => ?_
              refine wl rfl (ky (v := .bool true) hS (y_pickt hS rfl hb5528 rfl) rfl rfl fun a hS => ?_)
              refine wpList_nil ?_
              try simp only [Exit.then, Exit.inBlock, ↓reduceIte, Nat.reduceEqDiff]
              refine hK694 _ _ ?_
              refine c_t hS rfl rfl ?_
              refine wp_seq_k fun K695 hK695 => ?_
              refine r_list ?_
              refine wl rfl (ky (v := .bool false) hS (y_assign hS rfl) rfl rfl fun a hS => ?_)
              refine wpList_nil ?_
              try simp only [Exit.then, Exit.inBlock, ↓reduceIte, Nat.reduceEqDiff]
              refine hK695 _ _ ?_
              refine wp_ret ?_
              injection hM with hM
              subst hM
              have hr := hf1 _ rfl
              subst hr
              replace hMo1 := el_out hMo1
              have hM := hMo1
              injection hM with hM
              subst hM
              try simp only [Exit.then, Exit.inBlock, ↓reduceIte, Nat.reduceEqDiff]
              refine ret_ok hS Tryd.results8 (res_tmp hS rfl res_nil) ?_
              exact rfl
            · replace hM := cf hb5528 hM
              refine wg hS rfl rfl rfl hb5528 (ky (v := v5516) hS (y_move hS rfl) rfl rfl fun a hS => ?_)
              have hL := hS
              replace hL := hL.freeze (R := R_RecordD) 0 rfl 0 rfl
              obtain ⟨u5529, hu5529, hM⟩ := bd hM
              refine wg hS rfl rfl rfl hb5528 (k_call hS ci43 rfl rfl (record_ValidList_c _ _ hL.dlt (hL.get 4 rfl) l5515 _ (hL.get 0 rfl) _ hu5529) fun _ w hR a hk hA => ?_)
              have he := Eq.symm hR
              subst he
              have hS := hA [] (fun r hr => by cases hr) List.Pairwise.nil
              refine wg hS rfl rfl rfl hb5528 (ky (v := .bool (!(u5529))) hS (y_not hS rfl) rfl rfl fun a hS => ?_)
              refine wl rfl (ky (v := .bool (!(u5529))) hS (y_pickf hS rfl hb5528 rfl) rfl rfl fun a hS => ?_)
              refine wpList_nil ?_
              try simp only [Exit.then, Exit.inBlock, ↓reduceIte, Nat.reduceEqDiff]
              refine hK694 _ _ ?_
              rcases bool2 (!(u5529)) with hb5531 | hb5531
              · replace hM := ct hb5531 hM
                refine c_t hS rfl hb5531 ?_
                refine wp_seq_k fun K696 hK696 => ?_
                refine r_list ?_
                refine wl rfl (ky (v := .bool false) hS (y_assign hS rfl) rfl rfl fun a hS => ?_)
                refine wpList_nil ?_
                try simp only [Exit.then, Exit.inBlock, ↓reduceIte, Nat.reduceEqDiff]
                refine hK696 _ _ ?_
                refine wp_ret ?_
                injection hM with hM
                subst hM
                have hr := hf1 _ rfl
                subst hr
                replace hMo1 := el_out hMo1
                have hM := hMo1
                injection hM with hM
                subst hM
                try simp only [Exit.then, Exit.inBlock, ↓reduceIte, Nat.reduceEqDiff]
                refine ret_ok hS Tryd.results8 (res_tmp hS rfl res_nil) ?_
                exact rfl
              · replace hM := cf hb5531 hM
                refine c_f hS rfl hb5531 ?_
                refine wp_skip ?_
                try simp only [Exit.then, Exit.inBlock, ↓reduceIte, Nat.reduceEqDiff]
                refine hK693 _ _ ?_
                refine wp_seq_k fun K697 hK697 => ?_
                refine r_list ?_
                refine wl rfl (ky (v := v5516) hS (y_move hS rfl) rfl rfl fun a hS => ?_)
                refine wl rfl (ky (v := .int .i64 (l5515.length : Int)) hS (y_leno (R := R_RecordD) (xs := l5515) hS sl51 rfl 0 rfl 0 rfl) rfl rfl fun a hS => ?_)
                refine wl rfl (ky (v := .int .i64 0) hS (y_move hS rfl) rfl rfl fun a hS => ?_)
                refine wpList_nil ?_
                try simp only [Exit.then, Exit.inBlock, ↓reduceIte, Nat.reduceEqDiff]
                refine hK697 _ _ ?_
                refine wp_block ?_
                obtain ⟨r2, hl2, hMo2⟩ := bd hM
                refine wp_lp (fun s : Int => law26_RecordKeeps_l3 l5515 have5519 g5522 g5524 s) (fun s a w => ∃ (g5597 : Int), g5597 = s ∧ St W0 No T 110 [(3, .pointer (some ⟨bz2566_2, 0, none⟩)), (4, v5516), (5, .map (some b2568)), (6, .int .i64 k4481), (78, v5516), (79, .int .i64 (l5515.length : Int)), (80, .int .i64 g5597)] [.own v5516 54 R_RecordD.size cl5517, .obj b2568 (.map es5520 ck5521), .box bz2566_2 [v5523, .int .i64 g5524] 98] [RowsF R_RecordD cl5517 l5515, MapF R_KeyD true R_RecordD true es5520 have5519, SlF (Rep.int .i64) v5523 g5522, LvF] a w) hl2 ⟨0, rfl, (hS.meet [0, 1, 2] (by decide) ⟨rfl, rfl, rfl, rfl, rfl, rfl, rfl, trivial⟩ ⟨rfl, rfl, rfl, trivial⟩ ⟨⟨0, rfl⟩, ⟨1, rfl⟩, ⟨2, rfl⟩, ⟨3, rfl⟩, trivial⟩)⟩ ?_
                rintro s a w f2 ⟨g5597, rfl, hS⟩ hM hf2
                have hM : law26_RecordKeeps_l3 l5515 have5519 g5522 g5524 g5597 = some f2 := hM
                unfold law26_RecordKeeps_l3 at hM
                refine wp_seq_k fun K716 hK716 => ?_
                refine r_list ?_
                refine wl rfl (ky (v := .bool (decide ((g5597 : Int) < (l5515.length : Int)))) hS (y_int hS rfl rfl rfl) rfl rfl fun a hS => ?_)
                refine wpList_nil ?_
                try simp only [Exit.then, Exit.inBlock, ↓reduceIte, Nat.reduceEqDiff]
                refine hK716 _ _ ?_
                refine wp_seq_k fun K717 hK717 => ?_
                rcases bool2 (decide ((g5597 : Int) < (l5515.length : Int))) with hb5663 | hb5663
                · replace hM := ct hb5663 hM
                  refine c_t hS rfl hb5663 ?_
                  refine wp_skip ?_
                  try simp only [Exit.then, Exit.inBlock, ↓reduceIte, Nat.reduceEqDiff]
                  refine hK717 _ _ ?_
                  refine wp_seq_k fun K718 hK718 => ?_
                  refine wp_block ?_
                  refine wp_seq_k fun K719 hK719 => ?_
                  refine r_list ?_
                  obtain ⟨e5664, he5664, hM⟩ := bd hM
                  refine wl rfl (k_indexo (R := R_RecordD) hS sl51 ty54 rfl rfl 0 rfl 0 rfl he5664 rfl fun b5666 o5667 p5672 cs5669 hr5668 hO5670 hC5671 a hS => ?_)
                  obtain ⟨v5665, rfl, hv5665⟩ := hr5668
                  replace hS := hS.fact (SlF R_KeyD v5665 e5664.Reads) hv5665
                  refine wl rfl (ky (v := .agg #[.int .i64 e5664.Key.Kind, .string e5664.Key.Text, .string e5664.Value, v5665, .int .i64 e5664.Changed, .int .i64 e5664.Verified, .int .i64 e5664.Cost, .bool e5664.Dirty]) hS (y_loado (k := 0) hS ty54 0 rfl hO5670 hC5671 rfl id (us := [.int .i64 e5664.Key.Kind, .string e5664.Key.Text, .string e5664.Value, v5665, .int .i64 e5664.Changed, .int .i64 e5664.Verified, .int .i64 e5664.Cost, .bool e5664.Dirty]) rfl rfl (fun h => by cases h)) rfl rfl fun a hS => ?_)
                  refine wl rfl (k_alloc hS ze54 rfl fun b5673 hnb5675 a w hk hS => ?_)
                  refine wl rfl (k_store hS rfl rfl (us := [.int .i64 e5664.Key.Kind, .string e5664.Key.Text, .string e5664.Value, v5665, .int .i64 e5664.Changed, .int .i64 e5664.Verified, .int .i64 e5664.Cost, .bool e5664.Dirty]) rfl ty54 0 rfl rfl rfl (oc rfl (oc rfl (oc rfl (oc (SlR.one ((hS.get 0 rfl) : SlR R_KeyD _ _ _ _)) (oc rfl (oc rfl (oc rfl (oc rfl on)))))))) fun w hk hS => ?_)
                  refine wpList_nil ?_
                  try simp only [Exit.then, Exit.inBlock, ↓reduceIte, Nat.reduceEqDiff]
                  refine hK719 _ _ ?_
                  refine wp_seq_k fun K720 hK720 => ?_
                  refine r_list ?_
                  refine wl rfl (ky (v := v5516) hS (y_move hS rfl) rfl rfl fun a hS => ?_)
                  refine wl rfl (ky (v := .pointer (some ⟨b5673, 0 + 0, none⟩)) hS (y_fld hS rfl fl54_0) rfl rfl fun a hS => ?_)
                  refine wl rfl (ky (v := .agg #[.int .i64 e5664.Key.Kind, .string e5664.Key.Text]) hS (y_load hS rfl ty28 0 rfl id (us := [.int .i64 e5664.Key.Kind, .string e5664.Key.Text]) rfl rfl (fun h => by cases h)) rfl rfl fun a hS => ?_)
                  have hL := hS
                  replace hL := hL.freeze (R := R_RecordD) 1 rfl 1 rfl
                  obtain ⟨u5676, hu5676, hM⟩ := bd hM
                  refine wl rfl (k_call hS ci44 rfl rfl (record_Find_c _ _ hL.dlt (hL.get 5 rfl) l5515 e5664.Key _ (hL.get 0 rfl) _ hu5676) fun _ w hR a hk hA => ?_)
                  obtain ⟨vz5677_2, clz5677_3, he, ⟨hOvz5677_2, hFvz5677_2, hRvz5677_2⟩⟩ := hR
                  replace he := he.symm
                  subst he
                  have hS := hA [.own vz5677_2 28 R_KeyD.size clz5677_3] (adds1 ⟨hOvz5677_2, by decide⟩ hFvz5677_2) (pw1 _)
                  replace hS := hS.fact (RowsF R_KeyD clz5677_3 u5676.1.Reads) hRvz5677_2
                  refine wl rfl (ky (v := .tuple #[.agg #[.int .i64 u5676.1.Key.Kind, .string u5676.1.Key.Text, .string u5676.1.Value, vz5677_2, .int .i64 u5676.1.Changed, .int .i64 u5676.1.Verified, .int .i64 u5676.1.Cost, .bool u5676.1.Dirty], .bool u5676.2]) hS (y_move hS rfl) rfl rfl fun a hS => ?_)
                  refine wl rfl (ky (v := .agg #[.int .i64 u5676.1.Key.Kind, .string u5676.1.Key.Text, .string u5676.1.Value, vz5677_2, .int .i64 u5676.1.Changed, .int .i64 u5676.1.Verified, .int .i64 u5676.1.Cost, .bool u5676.1.Dirty]) hS (y_ex hS rfl rfl) rfl rfl fun a hS => ?_)
                  refine wl rfl (ky (v := .bool u5676.2) hS (y_ex hS rfl rfl) rfl rfl fun a hS => ?_)
                  refine wl rfl (k_alloc hS ze54 rfl fun b5679 hnb5681 a w hk hS => ?_)
                  refine wl rfl (k_store hS rfl rfl (us := [.int .i64 u5676.1.Key.Kind, .string u5676.1.Key.Text, .string u5676.1.Value, vz5677_2, .int .i64 u5676.1.Changed, .int .i64 u5676.1.Verified, .int .i64 u5676.1.Cost, .bool u5676.1.Dirty]) rfl ty54 0 rfl rfl rfl (oc rfl (oc rfl (oc rfl (oc (own_one (hS.own _ (List.mem_of_getElem? (i := 1) rfl)).1) (oc rfl (oc rfl (oc rfl (oc rfl on)))))))) fun w hk hS => ?_)
                  refine wl rfl (ky (v := .bool u5676.2) hS (y_assign hS rfl) rfl rfl fun a hS => ?_)
                  refine wpList_nil ?_
                  try simp only [Exit.then, Exit.inBlock, ↓reduceIte, Nat.reduceEqDiff]
                  refine hK720 _ _ ?_
                  refine wp_seq_k fun K721 hK721 => ?_
                  refine draws [] hS mixed rfl (fun c a d v w h => by cases d <;> exact h) fun w hQ hS => ?_
                  refine dy 0 (v := .bool u5676.2) rfl (by kernel_rfl) (by kernel_rfl) (by kernel_rfl) rfl hQ hS (y_move hS rfl) rfl rfl rfl fun a hS => ?_
                  refine dy 1 (v := .bool (!(u5676.2))) rfl (by kernel_rfl) (by kernel_rfl) (by kernel_rfl) rfl hQ hS (y_not hS rfl) rfl rfl rfl fun a hS => ?_
                  refine dy 2 (v := .bool (!(u5676.2))) rfl (by kernel_rfl) (by kernel_rfl) (by kernel_rfl) rfl hQ hS (y_move hS rfl) rfl rfl rfl fun a hS => ?_
                  rcases bool2 (!(u5676.2)) with hb5715 | hb5715
                  · replace hM := ct hb5715 hM
                    refine dyn 3 rfl (by kernel_rfl) (by kernel_rfl) (by kernel_rfl) hQ hS rfl rfl rfl hb5715 rfl rfl fun a hS => ?_
                    refine dyn 4 rfl (by kernel_rfl) (by kernel_rfl) (by kernel_rfl) hQ hS rfl rfl rfl hb5715 rfl rfl fun a hS => ?_
                    refine dyn 5 rfl (by kernel_rfl) (by kernel_rfl) (by kernel_rfl) hQ hS rfl rfl rfl hb5715 rfl rfl fun a hS => ?_
                    refine dyn 6 rfl (by kernel_rfl) (by kernel_rfl) (by kernel_rfl) hQ hS rfl rfl rfl hb5715 rfl rfl fun a hS => ?_
                    refine dy 7 (v := .bool true) rfl (by kernel_rfl) (by kernel_rfl) (by kernel_rfl) rfl hQ hS (y_pickt hS rfl hb5715 rfl) rfl rfl rfl fun a hS => ?_
                    refine dy 8 (v := .bool true) rfl (by kernel_rfl) (by kernel_rfl) (by kernel_rfl) rfl hQ hS (y_move hS rfl) rfl rfl rfl fun a hS => ?_
                    refine dyn 9 rfl (by kernel_rfl) (by kernel_rfl) (by kernel_rfl) hQ hS rfl rfl rfl rfl rfl rfl fun a hS => ?_
                    refine dyn 10 rfl (by kernel_rfl) (by kernel_rfl) (by kernel_rfl) hQ hS rfl rfl rfl rfl rfl rfl fun a hS => ?_
                    refine dyn 11 rfl (by kernel_rfl) (by kernel_rfl) (by kernel_rfl) hQ hS rfl rfl rfl rfl rfl rfl fun a hS => ?_
                    refine dyn 12 rfl (by kernel_rfl) (by kernel_rfl) (by kernel_rfl) hQ hS rfl rfl rfl rfl rfl rfl fun a hS => ?_
                    refine dyn 13 rfl (by kernel_rfl) (by kernel_rfl) (by kernel_rfl) hQ hS rfl rfl rfl rfl rfl rfl fun a hS => ?_
                    refine dyn 14 rfl (by kernel_rfl) (by kernel_rfl) (by kernel_rfl) hQ hS rfl rfl rfl rfl rfl rfl fun a hS => ?_
                    refine dyn 15 rfl (by kernel_rfl) (by kernel_rfl) (by kernel_rfl) hQ hS rfl rfl rfl rfl rfl rfl fun a hS => ?_
                    refine dy 16 (v := .bool true) rfl (by kernel_rfl) (by kernel_rfl) (by kernel_rfl) rfl hQ hS (y_pickt hS rfl rfl rfl) rfl rfl rfl fun a hS => ?_
                    refine wpE_done (by kernel_rfl) ?_ _
                    try simp only [Exit.then, Exit.inBlock, ↓reduceIte, Nat.reduceEqDiff]
                    refine hK721 _ _ ?_
                    refine c_t hS rfl rfl ?_
                    refine wp_seq_k fun K722 hK722 => ?_
                    refine r_list ?_
                    refine wl rfl (ky (v := .bool false) hS (y_assign hS rfl) rfl rfl fun a hS => ?_)
                    refine wpList_nil ?_
                    try simp only [Exit.then, Exit.inBlock, ↓reduceIte, Nat.reduceEqDiff]
                    refine hK722 _ _ ?_
                    refine wp_ret ?_
                    injection hM with hM
                    subst hM
                    have hr := hf2 _ rfl
                    subst hr
                    replace hMo2 := el_out hMo2
                    have hM := hMo2
                    injection hM with hM
                    subst hM
                    have hr := hf1 _ rfl
                    subst hr
                    replace hMo1 := el_out hMo1
                    have hM := hMo1
                    injection hM with hM
                    subst hM
                    try simp only [Exit.then, Exit.inBlock, ↓reduceIte, Nat.reduceEqDiff]
                    refine ret_ok hS Tryd.results8 (res_tmp hS rfl res_nil) ?_
                    exact rfl
                  · replace hM := cf hb5715 hM
                    refine dyg (l := []) 3 (v := .agg #[.int .i64 e5664.Key.Kind, .string e5664.Key.Text, .string e5664.Value, v5665, .int .i64 e5664.Changed, .int .i64 e5664.Verified, .int .i64 e5664.Cost, .bool e5664.Dirty]) rfl (by kernel_rfl) (by kernel_rfl) (by kernel_rfl) (by kernel_rfl) hQ hS (y_load hS rfl ty54 2 rfl eo_nil (us := [.int .i64 e5664.Key.Kind, .string e5664.Key.Text, .string e5664.Value, v5665, .int .i64 e5664.Changed, .int .i64 e5664.Verified, .int .i64 e5664.Cost, .bool e5664.Dirty]) rfl rfl (fun h => by cases h)) rfl rfl rfl hb5715 rfl rfl fun a hS => ?_
                    refine dyg (l := []) 4 (v := .agg #[.int .i64 u5676.1.Key.Kind, .string u5676.1.Key.Text, .string u5676.1.Value, vz5677_2, .int .i64 u5676.1.Changed, .int .i64 u5676.1.Verified, .int .i64 u5676.1.Cost, .bool u5676.1.Dirty]) rfl (by kernel_rfl) (by kernel_rfl) (by kernel_rfl) (by kernel_rfl) hQ hS (y_load hS rfl ty54 0 rfl eo_nil (us := [.int .i64 u5676.1.Key.Kind, .string u5676.1.Key.Text, .string u5676.1.Value, vz5677_2, .int .i64 u5676.1.Changed, .int .i64 u5676.1.Verified, .int .i64 u5676.1.Cost, .bool u5676.1.Dirty]) rfl rfl (fun h => by cases h)) rfl rfl rfl hb5715 rfl rfl fun a hS => ?_
                    have hL := hS
                    replace hL := hL.freeze (R := R_KeyD) 1 rfl 0 rfl
                    obtain ⟨u5716, hu5716, hM⟩ := bd hM
                    refine wpE_oneg (i := 5) rfl (by kernel_rfl) hS rfl rfl rfl hb5715 (k_call hS ci45 rfl rfl (ref26_SameOne_c _ _ hL.dlt e5664 (RecordD.mk (KeyD.mk u5676.1.Key.Kind u5676.1.Key.Text) u5676.1.Value u5676.1.Reads u5676.1.Changed u5676.1.Verified u5676.1.Cost u5676.1.Dirty) _ _ (hL.get 2 rfl) (hL.get 0 rfl) _ hu5716) fun _ w hR a hk hA => ⟨stN (hk), ?_⟩)
                    have he := Eq.symm hR
                    subst he
                    have hS := hA [] (fun r hr => by cases hr) List.Pairwise.nil
                    refine dyg 6 (v := .bool (!(u5716))) rfl (by kernel_rfl) (by kernel_rfl) (by kernel_rfl) rfl hQ hS (y_not hS rfl) rfl rfl rfl hb5715 rfl rfl fun a hS => ?_
                    refine dy 7 (v := .bool (!(u5716))) rfl (by kernel_rfl) (by kernel_rfl) (by kernel_rfl) rfl hQ hS (y_pickf hS rfl hb5715 rfl) rfl rfl rfl fun a hS => ?_
                    refine dy 8 (v := .bool (!(u5716))) rfl (by kernel_rfl) (by kernel_rfl) (by kernel_rfl) rfl hQ hS (y_move hS rfl) rfl rfl rfl fun a hS => ?_
                    rcases bool2 (!(u5716)) with hb5718 | hb5718
                    · replace hM := ct hb5718 hM
                      refine dyn 9 rfl (by kernel_rfl) (by kernel_rfl) (by kernel_rfl) hQ hS rfl rfl rfl hb5718 rfl rfl fun a hS => ?_
                      refine dyn 10 rfl (by kernel_rfl) (by kernel_rfl) (by kernel_rfl) hQ hS rfl rfl rfl hb5718 rfl rfl fun a hS => ?_
                      refine dyn 11 rfl (by kernel_rfl) (by kernel_rfl) (by kernel_rfl) hQ hS rfl rfl rfl hb5718 rfl rfl fun a hS => ?_
                      refine dyn 12 rfl (by kernel_rfl) (by kernel_rfl) (by kernel_rfl) hQ hS rfl rfl rfl hb5718 rfl rfl fun a hS => ?_
                      refine dyn 13 rfl (by kernel_rfl) (by kernel_rfl) (by kernel_rfl) hQ hS rfl rfl rfl hb5718 rfl rfl fun a hS => ?_
                      refine dyn 14 rfl (by kernel_rfl) (by kernel_rfl) (by kernel_rfl) hQ hS rfl rfl rfl hb5718 rfl rfl fun a hS => ?_
                      refine dyn 15 rfl (by kernel_rfl) (by kernel_rfl) (by kernel_rfl) hQ hS rfl rfl rfl hb5718 rfl rfl fun a hS => ?_
                      refine dy 16 (v := .bool true) rfl (by kernel_rfl) (by kernel_rfl) (by kernel_rfl) rfl hQ hS (y_pickt hS rfl hb5718 rfl) rfl rfl rfl fun a hS => ?_
                      refine wpE_done (by kernel_rfl) ?_ _
                      try simp only [Exit.then, Exit.inBlock, ↓reduceIte, Nat.reduceEqDiff]
                      refine hK721 _ _ ?_
                      refine c_t hS rfl rfl ?_
                      refine wp_seq_k fun K723 hK723 => ?_
                      refine r_list ?_
                      refine wl rfl (ky (v := .bool false) hS (y_assign hS rfl) rfl rfl fun a hS => ?_)
                      refine wpList_nil ?_
                      try simp only [Exit.then, Exit.inBlock, ↓reduceIte, Nat.reduceEqDiff]
                      refine hK723 _ _ ?_
                      refine wp_ret ?_
                      injection hM with hM
                      subst hM
                      have hr := hf2 _ rfl
                      subst hr
                      replace hMo2 := el_out hMo2
                      have hM := hMo2
                      injection hM with hM
                      subst hM
                      have hr := hf1 _ rfl
                      subst hr
                      replace hMo1 := el_out hMo1
                      have hM := hMo1
                      injection hM with hM
                      subst hM
                      try simp only [Exit.then, Exit.inBlock, ↓reduceIte, Nat.reduceEqDiff]
                      refine ret_ok hS Tryd.results8 (res_tmp hS rfl res_nil) ?_
                      exact rfl
                    · replace hM := cf hb5718 hM
                      refine dyg (l := []) 9 (v := .agg #[.int .i64 e5664.Key.Kind, .string e5664.Key.Text, .string e5664.Value, v5665, .int .i64 e5664.Changed, .int .i64 e5664.Verified, .int .i64 e5664.Cost, .bool e5664.Dirty]) rfl (by kernel_rfl) (by kernel_rfl) (by kernel_rfl) (by kernel_rfl) hQ hS (y_load hS rfl ty54 2 rfl eo_nil (us := [.int .i64 e5664.Key.Kind, .string e5664.Key.Text, .string e5664.Value, v5665, .int .i64 e5664.Changed, .int .i64 e5664.Verified, .int .i64 e5664.Cost, .bool e5664.Dirty]) rfl rfl (fun h => by cases h)) rfl rfl rfl hb5718 rfl rfl fun a hS => ?_
                      refine dyg 10 (v := .map (some b2568)) rfl (by kernel_rfl) (by kernel_rfl) (by kernel_rfl) rfl hQ hS (y_move hS rfl) rfl rfl rfl hb5718 rfl rfl fun a hS => ?_
                      refine dyg 11 (v := .pointer (some ⟨b5673, 0 + 0, none⟩)) rfl (by kernel_rfl) (by kernel_rfl) (by kernel_rfl) rfl hQ hS (y_fld hS rfl fl54_0) rfl rfl rfl hb5718 rfl rfl fun a hS => ?_
                      refine dyg (l := []) 12 (v := .agg #[.int .i64 e5664.Key.Kind, .string e5664.Key.Text]) rfl (by kernel_rfl) (by kernel_rfl) (by kernel_rfl) (by kernel_rfl) hQ hS (y_load hS rfl ty28 2 rfl eo_nil (us := [.int .i64 e5664.Key.Kind, .string e5664.Key.Text]) rfl rfl (fun h => by cases h)) rfl rfl rfl hb5718 rfl rfl fun a hS => ?_
                      obtain ⟨u5719, hu5719, hM⟩ := bd hM
                      obtain ⟨cv5721, hr5722, hy5723⟩ := d_looku hS mp60 kt_KeyD 4 rfl 3 rfl (c := [.int .i64 e5664.Key.Kind, .string e5664.Key.Text]) (key := e5664.Key) rfl zv54 (zc := [.int .i64 0, .string (ByteArray.mk #[]), .string (ByteArray.mk #[]), .slice none 0 0, .int .i64 0, .int .i64 0, .int .i64 0, .bool false]) rfl (⟨_, rfl, SlR.nil_ _ _ _⟩) hu5719
                      obtain ⟨v5720, rfl, hv5720⟩ := hr5722
                      replace hS := hS.fact (SlF R_KeyD v5720 u5719.Reads) hv5720
                      refine dyg (l := []) 13 (v := .agg #[.int .i64 u5719.Key.Kind, .string u5719.Key.Text, .string u5719.Value, v5720, .int .i64 u5719.Changed, .int .i64 u5719.Verified, .int .i64 u5719.Cost, .bool u5719.Dirty]) rfl (by kernel_rfl) (by kernel_rfl) (by kernel_rfl) (by kernel_rfl) hQ hS (hy5723 rfl rfl eo_nil) rfl rfl rfl hb5718 rfl rfl fun a hS => ?_
                      obtain ⟨u5724, hu5724, hM⟩ := bd hM
                      refine wpE_oneg (i := 14) rfl (by kernel_rfl) hS rfl rfl rfl hb5718 (k_call hS ci45 rfl rfl (ref26_SameOne_c _ _ hS.dlt e5664 u5719 _ _ (hS.get 2 rfl) (hS.get 0 rfl) _ hu5724) fun _ w hR a hk hA => ⟨stN (hk), ?_⟩)
                      have he := Eq.symm hR
                      subst he
                      have hS := hA [] (fun r hr => by cases hr) List.Pairwise.nil
                      refine dyg 15 (v := .bool (!(u5724))) rfl (by kernel_rfl) (by kernel_rfl) (by kernel_rfl) rfl hQ hS (y_not hS rfl) rfl rfl rfl hb5718 rfl rfl fun a hS => ?_
                      refine dy 16 (v := .bool (!(u5724))) rfl (by kernel_rfl) (by kernel_rfl) (by kernel_rfl) rfl hQ hS (y_pickf hS rfl hb5718 rfl) rfl rfl rfl fun a hS => ?_
                      refine wpE_done (by kernel_rfl) ?_ _
                      try simp only [Exit.then, Exit.inBlock, ↓reduceIte, Nat.reduceEqDiff]
                      refine hK721 _ _ ?_
                      rcases bool2 (!(u5724)) with hb5726 | hb5726
                      · replace hM := ct hb5726 hM
                        refine c_t hS rfl hb5726 ?_
                        refine wp_seq_k fun K724 hK724 => ?_
                        refine r_list ?_
                        refine wl rfl (ky (v := .bool false) hS (y_assign hS rfl) rfl rfl fun a hS => ?_)
                        refine wpList_nil ?_
                        try simp only [Exit.then, Exit.inBlock, ↓reduceIte, Nat.reduceEqDiff]
                        refine hK724 _ _ ?_
                        refine wp_ret ?_
                        injection hM with hM
                        subst hM
                        have hr := hf2 _ rfl
                        subst hr
                        replace hMo2 := el_out hMo2
                        have hM := hMo2
                        injection hM with hM
                        subst hM
                        have hr := hf1 _ rfl
                        subst hr
                        replace hMo1 := el_out hMo1
                        have hM := hMo1
                        injection hM with hM
                        subst hM
                        try simp only [Exit.then, Exit.inBlock, ↓reduceIte, Nat.reduceEqDiff]
                        refine ret_ok hS Tryd.results8 (res_tmp hS rfl res_nil) ?_
                        exact rfl
                      · replace hM := cf hb5726 hM
                        refine c_f hS rfl hb5726 ?_
                        refine wp_skip ?_
                        try simp only [Exit.then, Exit.inBlock, ↓reduceIte, Nat.reduceEqDiff]
                        refine hK718 _ _ ?_
                        refine r_list ?_
                        refine wl rfl (ky (v := .int .i64 (IntKind.i64.wrap (g5597 + 1))) hS (y_int hS rfl rfl rfl) rfl rfl fun a hS => ?_)
                        refine wl rfl (ky (v := .int .i64 (IntKind.i64.wrap (g5597 + 1))) hS (y_move hS rfl) rfl rfl fun a hS => ?_)
                        refine wpList_nil ?_
                        try simp only [Exit.then, Exit.inBlock, ↓reduceIte, Nat.reduceEqDiff]
                        exact ⟨IntKind.i64.wrap (g5597 + 1), (Option.some.inj hM).symm, (IntKind.i64.wrap (g5597 + 1)), rfl, (hS.meet [3, 4, 5] (by decide) ⟨rfl, rfl, rfl, rfl, rfl, rfl, rfl, trivial⟩ ⟨rfl, rfl, rfl, trivial⟩ ⟨⟨3, rfl⟩, ⟨4, rfl⟩, ⟨5, rfl⟩, ⟨6, rfl⟩, trivial⟩)⟩
                · replace hM := cf hb5663 hM
                  refine c_f hS rfl hb5663 ?_
                  refine wp_exit ?_
                  try simp only [Exit.then, Exit.inBlock, ↓reduceIte, Nat.reduceEqDiff]
                  injection hM with hM
                  subst hM
                  have hr := hf2 _ rfl
                  subst hr
                  replace hMo2 := el_go hMo2
                  have hM : law26_RecordKeeps_j2 k4481 l5515 have5519 g5522 g5524 = some f1 := hMo2
                  exact ⟨l5515, have5519, g5522, g5524, v5516, cl5517, es5520, ck5521, v5523, (hS.meet [0, 1, 2] (by decide) ⟨rfl, rfl, rfl, rfl, trivial⟩ ⟨rfl, rfl, rfl, trivial⟩ ⟨⟨0, rfl⟩, ⟨1, rfl⟩, ⟨2, rfl⟩, ⟨3, rfl⟩, trivial⟩), hM⟩
        · rintro a w ⟨l5421, have5425, g5428, g5430, v5422, cl5423, es5426, ck5427, v5429, hS, hM⟩
          unfold law26_RecordKeeps_j2 at hM
          refine r_list ?_
          refine wl rfl (ky (v := .int .i64 k4481) hS (y_move hS rfl) rfl rfl fun a hS => ?_)
          refine wl rfl (ky (v := .int .i64 (IntKind.i64.wrap (k4481 + 1))) hS (y_int hS rfl rfl rfl) rfl rfl fun a hS => ?_)
          refine wl rfl (ky (v := .int .i64 (IntKind.i64.wrap (k4481 + 1))) hS (y_assign hS rfl) rfl rfl fun a hS => ?_)
          refine wpList_nil ?_
          try simp only [Exit.then, Exit.inBlock, ↓reduceIte, Nat.reduceEqDiff]
          exact ⟨(l5421, have5425, IntKind.i64.wrap (k4481 + 1), g5428, g5430), (Option.some.inj hM).symm, l5421, have5425, (IntKind.i64.wrap (k4481 + 1)), g5428, g5430, v5422, cl5423, es5426, ck5427, v5429, rfl, (hS.meet [0, 1, 2] (by decide) ⟨rfl, rfl, rfl, rfl, trivial⟩ ⟨rfl, rfl, rfl, trivial⟩ ⟨⟨0, rfl⟩, ⟨1, rfl⟩, ⟨2, rfl⟩, ⟨3, rfl⟩, trivial⟩)⟩
      · replace hM := cf hb5116 hM
        refine c_f hS rfl hb5116 ?_
        refine wp_exit ?_
        try simp only [Exit.then, Exit.inBlock, ↓reduceIte, Nat.reduceEqDiff]
        injection hM with hM
        subst hM
        have hr := hf1 _ rfl
        subst hr
        replace hMo1 := el_go hMo1
        have hM : law26_RecordKeeps_j1 = some y := hMo1
        exact ⟨(hS.meet [] (by decide) trivial trivial ⟨⟨3, rfl⟩, trivial⟩), hM⟩
    · rintro a w ⟨hS, hM⟩
      unfold law26_RecordKeeps_j1 at hM
      refine wp_seq_k fun K487 hK487 => ?_
      refine r_list ?_
      obtain ⟨u3842, hu3842, hM⟩ := bd hM
      refine wl rfl (k_call hS ci33 rfl rfl (law26_awake_c _ _ hS.dlt (hS.get 0 rfl) _ hu3842) fun _ w hR a hk hA => ?_)
      have he := Eq.symm hR
      subst he
      have hS := hA [] (fun r hr => by cases hr) List.Pairwise.nil
      refine wl rfl (ky (v := .bool u3842) hS (y_assign hS rfl) rfl rfl fun a hS => ?_)
      refine wpList_nil ?_
      try simp only [Exit.then, Exit.inBlock, ↓reduceIte, Nat.reduceEqDiff]
      refine hK487 _ _ ?_
      refine wp_ret ?_
      injection hM with hM
      subst hM
      try simp only [Exit.then, Exit.inBlock, ↓reduceIte, Nat.reduceEqDiff]
      refine ret_ok hS Tryd.results8 (res_tmp hS rfl res_nil) ?_
      exact rfl
end Go.Proofs.YtjoilbmkcknnfaaDoor
