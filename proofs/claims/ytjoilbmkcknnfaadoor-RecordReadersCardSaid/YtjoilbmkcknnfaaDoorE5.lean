/- What functions of the program compute; that they do. -/
import Derived.Test.YtjoilbmkcknnfaaDoorTE5
import Derived.Test.YtjoilbmkcknnfaaDoorD1
import Derived.Test.YtjoilbmkcknnfaaDoorE1
import Derived.Test.YtjoilbmkcknnfaaDoorE2
set_option linter.unusedVariables false
set_option linter.unusedSimpArgs false
namespace Go.Proofs.YtjoilbmkcknnfaaDoor
open Go.RowKit
noncomputable def law26_RecordReaders_j1 (g2529 : Bool) : Option Bool := some (g2529)
noncomputable def law26_RecordReaders_j2 (u1553 : (List KeyD)) (i2522 : Int) : Option Bool := cond ((i2522 : Int) == (u1553.length : Int)) ((law26_awake).bind fun u2531 => law26_RecordReaders_j1 u2531) (law26_RecordReaders_j1 false)
noncomputable def law26_RecordReaders_j3 (g3016 : Int) (i3739 : Int) : Option (Fl (Int × Int) (Fl (Int) Bool)) := some (.go (i3739, IntKind.i64.wrap (g3016 + 1)))
noncomputable def law26_RecordReaders_j4 (g3016 : Int) (e3740 : RecordD) (i3822 : Int) (more3868 : (List KeyD)) : Option (Fl (Int × Int) (Fl (Int) Bool)) := (record_Size (RecordD.mk e3740.Key e3740.Value more3868 e3740.Changed e3740.Verified e3740.Cost e3740.Dirty)).bind fun u3884 => (record_Size e3740).bind fun u3886 => cond ((u3884 : Int) != (IntKind.i64.wrap (u3886 + 8))) (some (.out (.out false))) (law26_RecordReaders_j3 g3016 i3822)
noncomputable def law26_RecordReaders_j5 (u1548 : KeyD) (g3016 : Int) (e3740 : RecordD) (i3822 : Int) : Option (Fl (Int × Int) (Fl (Int) Bool)) := gd (roomB (([] : List KeyD).length + e3740.Reads.length)) <| gd (roomB ((([] : List KeyD) ++ e3740.Reads).length + ([u1548]).length)) <| law26_RecordReaders_j4 g3016 e3740 i3822 ((([] : List KeyD) ++ e3740.Reads) ++ ([u1548]))
noncomputable def law26_RecordReaders_j6 (u1548 : KeyD) (u1553 : (List KeyD)) (i3015 : Int) (g3016 : Int) (e3740 : RecordD) (has3779 : Bool) : Option (Fl (Int × Int) (Fl (Int) Bool)) := cond has3779 (cond (decide (((u1553.length : Int) : Int) ≤ i3015)) (some (.out (.out false))) ((getI u1553 i3015).bind fun e3942 => cond (!((e3942.Kind : Int) == e3740.Key.Kind && e3942.Text.toList == e3740.Key.Text.toList)) (some (.out (.out false))) (law26_RecordReaders_j5 u1548 g3016 e3740 (IntKind.i64.wrap (i3015 + 1))))) (law26_RecordReaders_j5 u1548 g3016 e3740 i3015)
noncomputable def law26_RecordReaders_l7 (u1548 : KeyD) (e3740 : RecordD) (has3964 : Bool) (g3965 : Int) : Option (Fl (Bool × Int) (Bool)) := cond (decide ((g3965 : Int) < (e3740.Reads.length : Int))) ((getI e3740.Reads g3965).bind fun e3980 => cond has3964 (some (.go (true, IntKind.i64.wrap (g3965 + 1)))) (some (.go ((e3980.Kind : Int) == u1548.Kind && e3980.Text.toList == u1548.Text.toList, IntKind.i64.wrap (g3965 + 1))))) (some (.out has3964))
noncomputable def law26_RecordReaders_l8 (u1543 : ((List RecordD) × DiceD)) (u1548 : KeyD) (u1553 : (List KeyD)) (i3015 : Int) (g3016 : Int) : Option (Fl (Int × Int) (Fl (Int) Bool)) := cond (decide ((g3016 : Int) < (u1543.1.length : Int))) ((getI u1543.1 g3016).bind fun e3740 => (loop (fun s : Bool × Int => law26_RecordReaders_l7 u1548 e3740 s.1 s.2) (false, 0)).bind fun r => law26_RecordReaders_j6 u1548 u1553 i3015 g3016 e3740 r) (some (.out (.go i3015)))
noncomputable def law26_RecordReaders (t_0 : (List Int)) (n_1 : Int) : Option Bool := (mill_Light t_0).bind fun u1535 => cond (!(u1535)) ((law26_awake).bind fun u1538 => some (u1538)) ((mill_Roll t_0).bind fun u1540 => (law26_some u1540).bind fun u1543 => (mill_Mod n_1 4).bind fun u1546 => (ref23_Cell u1546).bind fun u1548 => (record_Readers u1543.1 u1548).bind fun u1553 => (loop (fun s : Int × Int => law26_RecordReaders_l8 u1543 u1548 u1553 s.1 s.2) (0, 0)).bind fun r => Fl.el r (fun s => law26_RecordReaders_j2 u1553 s) (fun y => some (y)))
set_option maxRecDepth 100000 in
set_option maxHeartbeats 4000000 in
theorem law26_RecordReaders_c (T : Nat → Prop) (W0 : World) (hT : ∀ k, T k → k < W0.heap.size) (hLv : LvP T W0) (t_0 : (List Int)) (n_1 : Int) (v1 : Value) (hv1 : SlR (Rep.int .i64) T W0 v1 t_0) (y : Bool) (hM : law26_RecordReaders t_0 n_1 = some y) : Rets Tryd.prog No 9 [v1, .int .i64 n_1] W0 (fun v w' => v = .bool y) := by
  refine enter (c := _) Tryd.func9 rfl T 86 Tryd.ntmps9 hT rfl fun a hS => ?_
  replace hS := hS.fact LvF (LvP.dn hLv)
  replace hS := hS.fact (SlF (Rep.int .i64) v1 t_0) (SlR.dn hv1)
  unfold law26_RecordReaders at hM
  refine wp_seq_k fun K215 hK215 => ?_
  refine r_list ?_
  refine wl rfl (ky (v := .bool false) hS (y_assign hS rfl) rfl rfl fun a hS => ?_)
  refine wpList_nil ?_
  try simp only [Exit.then, Exit.inBlock, ↓reduceIte, Nat.reduceEqDiff]
  refine hK215 _ _ ?_
  refine wp_seq_k fun K216 hK216 => ?_
  refine wp_seq_k fun K217 hK217 => ?_
  refine r_list ?_
  refine wl rfl (ky (v := v1) hS (y_move hS rfl) rfl rfl fun a hS => ?_)
  obtain ⟨u1535, hu1535, hM⟩ := bd hM
  refine wl rfl (k_call hS ci13 rfl rfl (mill_Light_c _ _ hS.dlt t_0 _ (hS.get 0 rfl) _ hu1535) fun _ w hR a hk hA => ?_)
  have he := Eq.symm hR
  subst he
  have hS := hA [] (fun r hr => by cases hr) List.Pairwise.nil
  refine wl rfl (ky (v := .bool (!(u1535))) hS (y_not hS rfl) rfl rfl fun a hS => ?_)
  refine wpList_nil ?_
  try simp only [Exit.then, Exit.inBlock, ↓reduceIte, Nat.reduceEqDiff]
  refine hK217 _ _ ?_
  rcases bool2 (!(u1535)) with hb1537 | hb1537
  · replace hM := ct hb1537 hM
    refine c_t hS rfl hb1537 ?_
    refine wp_seq_k fun K218 hK218 => ?_
    refine r_list ?_
    obtain ⟨u1538, hu1538, hM⟩ := bd hM
    refine wl rfl (k_call hS ci33 rfl rfl (law26_awake_c _ _ hS.dlt (hS.get 1 rfl) _ hu1538) fun _ w hR a hk hA => ?_)
    have he := Eq.symm hR
    subst he
    have hS := hA [] (fun r hr => by cases hr) List.Pairwise.nil
    refine wl rfl (ky (v := .bool u1538) hS (y_assign hS rfl) rfl rfl fun a hS => ?_)
    refine wpList_nil ?_
    try simp only [Exit.then, Exit.inBlock, ↓reduceIte, Nat.reduceEqDiff]
    refine hK218 _ _ ?_
    refine wp_ret ?_
    injection hM with hM
    subst hM
    try simp only [Exit.then, Exit.inBlock, ↓reduceIte, Nat.reduceEqDiff]
    refine ret_ok hS Tryd.results9 (res_tmp hS rfl res_nil) ?_
    exact rfl
  · replace hM := cf hb1537 hM
    refine c_f hS rfl hb1537 ?_
    refine wp_skip ?_
    try simp only [Exit.then, Exit.inBlock, ↓reduceIte, Nat.reduceEqDiff]
    refine hK216 _ _ ?_
    refine wp_seq_k fun K219 hK219 => ?_
    refine r_list ?_
    refine wl rfl (ky (v := v1) hS (y_move hS rfl) rfl rfl fun a hS => ?_)
    obtain ⟨u1540, hu1540, hM⟩ := bd hM
    refine wl rfl (k_call hS ci34 rfl rfl (mill_Roll_c _ _ hS.dlt t_0 _ (hS.get 0 rfl) _ hu1540) fun _ w hR a hk hA => ?_)
    obtain ⟨bz1541_2, vz1541_3, he, hFbz1541_2, hObz1541_2, hRvz1541_3⟩ := hR
    replace he := he.symm
    subst he
    have hS := hA [.box bz1541_2 [vz1541_3, .int .i64 u1540.At] 98] (adds1 hObz1541_2 (fun k hk => by simp only [Res.dom, Option.some.injEq] at hk; omega)) (pw1 _)
    replace hS := hS.fact (SlF (Rep.int .i64) vz1541_3 u1540.L) (hRvz1541_3.sub (dT_dT _))
    obtain ⟨u1543, hu1543, hM⟩ := bd hM
    refine wl rfl (k_callmr hS ci35 rfl rfl 0 rfl (law26_some_c _ _ (hS.drop 0).dlt u1540 _ _ (hS.boxRow 0 rfl) (hS.notin 0 rfl) (SlR.lent (i := 0) rfl (hS.get 0 rfl)) (LvF.keep (hS.get 2 rfl) (Kt.refl _ _) (fun k hk => .inl ((dT_in (i := 0) rfl k).1 hk))) _ hu1543) fun _ w hR hk => ?_)
    obtain ⟨vz1544_3, clz1544_4, vz1544_5, he, ⟨hOvz1544_3, hFvz1544_3, hRvz1544_3⟩, hrow, hRvz1544_5⟩ := hR
    replace he := he.symm
    subst he
    refine ⟨[vz1544_5, .int .i64 u1543.2.At], [.own vz1544_3 54 R_RecordD.size clz1544_4], hrow, adds1 ⟨hOvz1544_3, by decide⟩ hFvz1544_3, pw1 _, fun a hS => ?_⟩
    replace hS := hS.fact (RowsF R_RecordD clz1544_4 u1543.1) (hRvz1544_3.keep (Kt.refl _ _) (Nw.back2 (i := 0) rfl [.own vz1544_3 54 R_RecordD.size clz1544_4] _))
    replace hS := hS.fact (SlF (Rep.int .i64) vz1544_5 u1543.2.L) (hRvz1544_5.sub (Nw.back2 (i := 0) rfl [.own vz1544_3 54 R_RecordD.size clz1544_4] _))
    refine wl rfl (ky (v := vz1544_3) hS (y_assign hS rfl) rfl rfl fun a hS => ?_)
    refine wpList_nil ?_
    try simp only [Exit.then, Exit.inBlock, ↓reduceIte, Nat.reduceEqDiff]
    refine hK219 _ _ ?_
    refine wp_seq_k fun K220 hK220 => ?_
    refine r_list ?_
    refine wl rfl (ky (v := .int .i64 n_1) hS (y_move hS rfl) rfl rfl fun a hS => ?_)
    obtain ⟨u1546, hu1546, hM⟩ := bd hM
    refine wl rfl (k_call hS ci18 rfl rfl (mill_Mod_c _ _ hS.dlt n_1 4 _ hu1546) fun _ w hR a hk hA => ?_)
    have he := Eq.symm hR
    subst he
    have hS := hA [] (fun r hr => by cases hr) List.Pairwise.nil
    obtain ⟨u1548, hu1548, hM⟩ := bd hM
    refine wl rfl (k_call hS ci30 rfl rfl (ref23_Cell_c _ _ hS.dlt (hS.get 4 rfl) u1546 _ hu1548) fun _ w hR a hk hA => ?_)
    have he := Eq.symm hR
    subst he
    have hS := hA [] (fun r hr => by cases hr) List.Pairwise.nil
    refine wl rfl (k_alloc hS ze28 rfl fun b1550 hnb1552 a w hk hS => ?_)
    refine wl rfl (k_store hS rfl rfl (us := [.int .i64 u1548.Kind, .string u1548.Text]) rfl ty28 0 rfl rfl rfl (oc rfl (oc rfl on)) fun w hk hS => ?_)
    refine wpList_nil ?_
    try simp only [Exit.then, Exit.inBlock, ↓reduceIte, Nat.reduceEqDiff]
    refine hK220 _ _ ?_
    refine wp_seq_k fun K221 hK221 => ?_
    refine r_list ?_
    refine wl rfl (ky (v := vz1544_3) hS (y_move hS rfl) rfl rfl fun a hS => ?_)
    refine wl rfl (ky (v := .agg #[.int .i64 u1548.Kind, .string u1548.Text]) hS (y_load hS rfl ty28 0 rfl id (us := [.int .i64 u1548.Kind, .string u1548.Text]) rfl rfl (fun h => by cases h)) rfl rfl fun a hS => ?_)
    have hL := hS
    replace hL := hL.freeze (R := R_RecordD) 1 rfl 1 rfl
    obtain ⟨u1553, hu1553, hM⟩ := bd hM
    refine wl rfl (k_call hS ci46 rfl rfl (record_Readers_c _ _ hL.dlt u1543.1 u1548 _ (hL.get 0 rfl) _ hu1553) fun _ w hR a hk hA => ?_)
    obtain ⟨vz1554_2, clz1554_3, he, ⟨hOvz1554_2, hFvz1554_2, hRvz1554_2⟩⟩ := hR
    replace he := he.symm
    subst he
    have hS := hA [.own vz1554_2 28 R_KeyD.size clz1554_3] (adds1 ⟨hOvz1554_2, by decide⟩ hFvz1554_2) (pw1 _)
    replace hS := hS.fact (RowsF R_KeyD clz1554_3 u1553) hRvz1554_2
    refine wl rfl (ky (v := vz1554_2) hS (y_assign hS rfl) rfl rfl fun a hS => ?_)
    refine wpList_nil ?_
    try simp only [Exit.then, Exit.inBlock, ↓reduceIte, Nat.reduceEqDiff]
    refine hK221 _ _ ?_
    refine wp_seq_k fun K222 hK222 => ?_
    refine r_list ?_
    refine wl rfl (ky (v := .int .i64 0) hS (y_assign hS rfl) rfl rfl fun a hS => ?_)
    refine wpList_nil ?_
    try simp only [Exit.then, Exit.inBlock, ↓reduceIte, Nat.reduceEqDiff]
    refine hK222 _ _ ?_
    refine seq_j (J := fun a w => ∃ (i2522 : Int), St W0 No T 86 [(7, vz1554_2), (8, .int .i64 i2522)] [.own vz1554_2 28 R_KeyD.size clz1554_3] [RowsF R_KeyD clz1554_3 u1553, LvF] a w ∧ law26_RecordReaders_j2 u1553 i2522 = some y) ?_ ?_
    · skip
      refine wp_seq_k fun K360 hK360 => ?_
      refine r_list ?_
      refine wl rfl (ky (v := vz1544_3) hS (y_move hS rfl) rfl rfl fun a hS => ?_)
      refine wl rfl (ky (v := .int .i64 (u1543.1.length : Int)) hS (y_leno (R := R_RecordD) (xs := u1543.1) hS sl51 rfl 2 rfl 2 rfl) rfl rfl fun a hS => ?_)
      refine wl rfl (ky (v := .int .i64 0) hS (y_move hS rfl) rfl rfl fun a hS => ?_)
      refine wpList_nil ?_
      try simp only [Exit.then, Exit.inBlock, ↓reduceIte, Nat.reduceEqDiff]
      refine hK360 _ _ ?_
      refine wp_block ?_
      obtain ⟨r1, hl1, hMo1⟩ := bd hM
      refine wp_lp (fun s : Int × Int => law26_RecordReaders_l8 u1543 u1548 u1553 s.1 s.2) (fun s a w => ∃ (i3015 : Int) (g3016 : Int), (i3015, g3016) = s ∧ St W0 No T 86 [(6, .pointer (some ⟨b1550, 0, none⟩)), (7, vz1554_2), (8, .int .i64 i3015), (28, vz1544_3), (29, .int .i64 (u1543.1.length : Int)), (30, .int .i64 g3016)] [.own vz1554_2 28 R_KeyD.size clz1554_3, .own vz1544_3 54 R_RecordD.size clz1544_4, .box b1550 [.int .i64 u1548.Kind, .string u1548.Text] 28] [RowsF R_KeyD clz1554_3 u1553, RowsF R_RecordD clz1544_4 u1543.1, LvF] a w) hl1 ⟨0, 0, rfl, (hS.meet [0, 2, 1] (by decide) ⟨rfl, rfl, rfl, rfl, rfl, rfl, trivial⟩ ⟨rfl, rfl, rfl, trivial⟩ ⟨⟨0, rfl⟩, ⟨2, rfl⟩, ⟨5, rfl⟩, trivial⟩)⟩ ?_
      rintro s a w f1 ⟨i3015, g3016, rfl, hS⟩ hM hf1
      have hM : law26_RecordReaders_l8 u1543 u1548 u1553 i3015 g3016 = some f1 := hM
      unfold law26_RecordReaders_l8 at hM
      refine wp_seq_k fun K497 hK497 => ?_
      refine r_list ?_
      refine wl rfl (ky (v := .bool (decide ((g3016 : Int) < (u1543.1.length : Int)))) hS (y_int hS rfl rfl rfl) rfl rfl fun a hS => ?_)
      refine wpList_nil ?_
      try simp only [Exit.then, Exit.inBlock, ↓reduceIte, Nat.reduceEqDiff]
      refine hK497 _ _ ?_
      refine wp_seq_k fun K498 hK498 => ?_
      rcases bool2 (decide ((g3016 : Int) < (u1543.1.length : Int))) with hb3499 | hb3499
      · replace hM := ct hb3499 hM
        refine c_t hS rfl hb3499 ?_
        refine wp_skip ?_
        try simp only [Exit.then, Exit.inBlock, ↓reduceIte, Nat.reduceEqDiff]
        refine hK498 _ _ ?_
        refine seq_j (J := fun a w => ∃ (i3739 : Int), St W0 No T 86 [(6, .pointer (some ⟨b1550, 0, none⟩)), (7, vz1554_2), (8, .int .i64 i3739), (28, vz1544_3), (29, .int .i64 (u1543.1.length : Int)), (30, .int .i64 g3016)] [.own vz1554_2 28 R_KeyD.size clz1554_3, .own vz1544_3 54 R_RecordD.size clz1544_4, .box b1550 [.int .i64 u1548.Kind, .string u1548.Text] 28] [RowsF R_KeyD clz1554_3 u1553, RowsF R_RecordD clz1544_4 u1543.1, LvF] a w ∧ law26_RecordReaders_j3 g3016 i3739 = some f1) ?_ ?_
        · skip
          refine wp_block ?_
          refine wp_seq_k fun K532 hK532 => ?_
          refine r_list ?_
          obtain ⟨e3740, he3740, hM⟩ := bd hM
          refine wl rfl (k_indexo (R := R_RecordD) hS sl51 ty54 rfl rfl 1 rfl 1 rfl he3740 rfl fun b3742 o3743 p3748 cs3745 hr3744 hO3746 hC3747 a hS => ?_)
          obtain ⟨v3741, rfl, hv3741⟩ := hr3744
          replace hS := hS.fact (SlF R_KeyD v3741 e3740.Reads) hv3741
          refine wl rfl (ky (v := .agg #[.int .i64 e3740.Key.Kind, .string e3740.Key.Text, .string e3740.Value, v3741, .int .i64 e3740.Changed, .int .i64 e3740.Verified, .int .i64 e3740.Cost, .bool e3740.Dirty]) hS (y_loado (k := 0) hS ty54 1 rfl hO3746 hC3747 rfl id (us := [.int .i64 e3740.Key.Kind, .string e3740.Key.Text, .string e3740.Value, v3741, .int .i64 e3740.Changed, .int .i64 e3740.Verified, .int .i64 e3740.Cost, .bool e3740.Dirty]) rfl rfl (fun h => by cases h)) rfl rfl fun a hS => ?_)
          refine wl rfl (k_alloc hS ze54 rfl fun b3749 hnb3751 a w hk hS => ?_)
          refine wl rfl (k_store hS rfl rfl (us := [.int .i64 e3740.Key.Kind, .string e3740.Key.Text, .string e3740.Value, v3741, .int .i64 e3740.Changed, .int .i64 e3740.Verified, .int .i64 e3740.Cost, .bool e3740.Dirty]) rfl ty54 0 rfl rfl rfl (oc rfl (oc rfl (oc rfl (oc (SlR.one ((hS.get 0 rfl) : SlR R_KeyD _ _ _ _)) (oc rfl (oc rfl (oc rfl (oc rfl on)))))))) fun w hk hS => ?_)
          refine wpList_nil ?_
          try simp only [Exit.then, Exit.inBlock, ↓reduceIte, Nat.reduceEqDiff]
          refine hK532 _ _ ?_
          refine wp_seq_k fun K533 hK533 => ?_
          refine r_list ?_
          refine wl rfl (ky (v := .bool false) hS (y_assign hS rfl) rfl rfl fun a hS => ?_)
          refine wpList_nil ?_
          try simp only [Exit.then, Exit.inBlock, ↓reduceIte, Nat.reduceEqDiff]
          refine hK533 _ _ ?_
          refine seq_j (J := fun a w => ∃ (has3779 : Bool), St W0 No T 86 [(6, .pointer (some ⟨b1550, 0, none⟩)), (7, vz1554_2), (8, .int .i64 i3015), (10, .pointer (some ⟨b3749, 0, none⟩)), (11, .bool has3779), (28, vz1544_3), (29, .int .i64 (u1543.1.length : Int)), (30, .int .i64 g3016)] [.own vz1554_2 28 R_KeyD.size clz1554_3, .own vz1544_3 54 R_RecordD.size clz1544_4, .box b1550 [.int .i64 u1548.Kind, .string u1548.Text] 28, .box b3749 [.int .i64 e3740.Key.Kind, .string e3740.Key.Text, .string e3740.Value, v3741, .int .i64 e3740.Changed, .int .i64 e3740.Verified, .int .i64 e3740.Cost, .bool e3740.Dirty] 54] [RowsF R_KeyD clz1554_3 u1553, RowsF R_RecordD clz1544_4 u1543.1, SlF R_KeyD v3741 e3740.Reads, LvF] a w ∧ law26_RecordReaders_j6 u1548 u1553 i3015 g3016 e3740 has3779 = some f1) ?_ ?_
          · skip
            refine wp_seq_k fun K556 hK556 => ?_
            refine r_list ?_
            refine wl rfl (ky (v := .pointer (some ⟨b3749, 0 + 3, none⟩)) hS (y_fld hS rfl fl54_2) rfl rfl fun a hS => ?_)
            refine wl rfl (ky (v := v3741) hS (y_load hS rfl ty22 0 rfl id (us := [v3741]) rfl rfl (fun _ => rfl)) rfl rfl fun a hS => ?_)
            refine wl rfl (ky (v := .int .i64 (e3740.Reads.length : Int)) hS (y_len (R := R_KeyD) (xs := e3740.Reads) hS sl22 rfl 0 rfl) rfl rfl fun a hS => ?_)
            refine wl rfl (ky (v := .int .i64 0) hS (y_move hS rfl) rfl rfl fun a hS => ?_)
            refine wpList_nil ?_
            try simp only [Exit.then, Exit.inBlock, ↓reduceIte, Nat.reduceEqDiff]
            refine hK556 _ _ ?_
            refine wp_block ?_
            obtain ⟨r2, hl2, hMo2⟩ := bd hM
            refine wp_lp (fun s : Bool × Int => law26_RecordReaders_l7 u1548 e3740 s.1 s.2) (fun s a w => ∃ (has3964 : Bool) (g3965 : Int), (has3964, g3965) = s ∧ St W0 No T 86 [(6, .pointer (some ⟨b1550, 0, none⟩)), (7, vz1554_2), (8, .int .i64 i3015), (10, .pointer (some ⟨b3749, 0, none⟩)), (11, .bool has3964), (28, vz1544_3), (29, .int .i64 (u1543.1.length : Int)), (30, .int .i64 g3016), (35, v3741), (36, .int .i64 (e3740.Reads.length : Int)), (37, .int .i64 g3965)] [.own vz1554_2 28 R_KeyD.size clz1554_3, .own vz1544_3 54 R_RecordD.size clz1544_4, .box b1550 [.int .i64 u1548.Kind, .string u1548.Text] 28, .box b3749 [.int .i64 e3740.Key.Kind, .string e3740.Key.Text, .string e3740.Value, v3741, .int .i64 e3740.Changed, .int .i64 e3740.Verified, .int .i64 e3740.Cost, .bool e3740.Dirty] 54] [RowsF R_KeyD clz1554_3 u1553, RowsF R_RecordD clz1544_4 u1543.1, SlF R_KeyD v3741 e3740.Reads, LvF] a w) hl2 ⟨false, 0, rfl, (hS.meet [1, 2, 3, 0] (by decide) ⟨rfl, rfl, rfl, rfl, rfl, rfl, rfl, rfl, rfl, rfl, rfl, trivial⟩ ⟨rfl, rfl, rfl, rfl, trivial⟩ ⟨⟨1, rfl⟩, ⟨2, rfl⟩, ⟨0, rfl⟩, ⟨3, rfl⟩, trivial⟩)⟩ ?_
            rintro s a w f2 ⟨has3964, g3965, rfl, hS⟩ hM hf2
            have hM : law26_RecordReaders_l7 u1548 e3740 has3964 g3965 = some f2 := hM
            unfold law26_RecordReaders_l7 at hM
            refine wp_seq_k fun K565 hK565 => ?_
            refine r_list ?_
            refine wl rfl (ky (v := .bool (decide ((g3965 : Int) < (e3740.Reads.length : Int)))) hS (y_int hS rfl rfl rfl) rfl rfl fun a hS => ?_)
            refine wpList_nil ?_
            try simp only [Exit.then, Exit.inBlock, ↓reduceIte, Nat.reduceEqDiff]
            refine hK565 _ _ ?_
            refine wp_seq_k fun K566 hK566 => ?_
            rcases bool2 (decide ((g3965 : Int) < (e3740.Reads.length : Int))) with hb3979 | hb3979
            · replace hM := ct hb3979 hM
              refine c_t hS rfl hb3979 ?_
              refine wp_skip ?_
              try simp only [Exit.then, Exit.inBlock, ↓reduceIte, Nat.reduceEqDiff]
              refine hK566 _ _ ?_
              refine wp_seq_k fun K567 hK567 => ?_
              refine wp_block ?_
              refine wp_seq_k fun K568 hK568 => ?_
              refine r_list ?_
              obtain ⟨e3980, he3980, hM⟩ := bd hM
              refine wl rfl (k_index (R := R_KeyD) hS sl22 ty28 rfl rfl 2 rfl he3980 rfl fun b3981 o3982 cs3984 hr3983 a hS => ?_)
              obtain rfl := hr3983
              refine wl rfl (ky (v := .agg #[.int .i64 e3980.Kind, .string e3980.Text]) hS (y_loadc (k := 0) hS ty28 0 rfl rfl (fun _ h => h.elim) (us := [.int .i64 e3980.Kind, .string e3980.Text]) rfl rfl (fun h => by cases h)) rfl rfl fun a hS => ?_)
              refine wl rfl (k_alloc hS ze28 rfl fun b3986 hnb3988 a w hk hS => ?_)
              refine wl rfl (k_store hS rfl rfl (us := [.int .i64 e3980.Kind, .string e3980.Text]) rfl ty28 0 rfl rfl rfl (oc rfl (oc rfl on)) fun w hk hS => ?_)
              refine wpList_nil ?_
              try simp only [Exit.then, Exit.inBlock, ↓reduceIte, Nat.reduceEqDiff]
              refine hK568 _ _ ?_
              refine r_list ?_
              refine wl rfl (ky (v := .bool has3964) hS (y_move hS rfl) rfl rfl fun a hS => ?_)
              refine wl rfl (ky (v := .bool has3964) hS (y_move hS rfl) rfl rfl fun a hS => ?_)
              rcases bool2 (has3964) with hb3989 | hb3989
              · replace hM := ct hb3989 hM
                refine wn hS rfl rfl rfl hb3989 rfl rfl fun a hS => ?_
                refine wn hS rfl rfl rfl hb3989 rfl rfl fun a hS => ?_
                refine wn hS rfl rfl rfl hb3989 rfl rfl fun a hS => ?_
                refine wl rfl (ky (v := .bool true) hS (y_pickt hS rfl hb3989 rfl) rfl rfl fun a hS => ?_)
                refine wl rfl (ky (v := .bool true) hS (y_assign hS rfl) rfl rfl fun a hS => ?_)
                refine wpList_nil ?_
                try simp only [Exit.then, Exit.inBlock, ↓reduceIte, Nat.reduceEqDiff]
                refine hK567 _ _ ?_
                refine r_list ?_
                refine wl rfl (ky (v := .int .i64 (IntKind.i64.wrap (g3965 + 1))) hS (y_int hS rfl rfl rfl) rfl rfl fun a hS => ?_)
                refine wl rfl (ky (v := .int .i64 (IntKind.i64.wrap (g3965 + 1))) hS (y_move hS rfl) rfl rfl fun a hS => ?_)
                refine wpList_nil ?_
                try simp only [Exit.then, Exit.inBlock, ↓reduceIte, Nat.reduceEqDiff]
                exact ⟨(true, IntKind.i64.wrap (g3965 + 1)), (Option.some.inj hM).symm, true, (IntKind.i64.wrap (g3965 + 1)), rfl, (hS.meet [1, 2, 3, 4] (by decide) ⟨rfl, rfl, rfl, rfl, rfl, rfl, rfl, rfl, rfl, rfl, rfl, trivial⟩ ⟨rfl, rfl, rfl, rfl, trivial⟩ ⟨⟨1, rfl⟩, ⟨2, rfl⟩, ⟨3, rfl⟩, ⟨4, rfl⟩, trivial⟩)⟩
              · replace hM := cf hb3989 hM
                refine wg hS rfl rfl rfl hb3989 (ky (v := .agg #[.int .i64 e3980.Kind, .string e3980.Text]) hS (y_load hS rfl ty28 0 rfl id (us := [.int .i64 e3980.Kind, .string e3980.Text]) rfl rfl (fun h => by cases h)) rfl rfl fun a hS => ?_)
                refine wg hS rfl rfl rfl hb3989 (ky (v := .agg #[.int .i64 u1548.Kind, .string u1548.Text]) hS (y_load hS rfl ty28 3 rfl id (us := [.int .i64 u1548.Kind, .string u1548.Text]) rfl rfl (fun h => by cases h)) rfl rfl fun a hS => ?_)
                refine wg hS rfl rfl rfl hb3989 (ky (v := .bool ((e3980.Kind : Int) == u1548.Kind && e3980.Text.toList == u1548.Text.toList)) hS (eq28 hS rfl rfl) rfl rfl fun a hS => ?_)
                refine wl rfl (ky (v := .bool ((e3980.Kind : Int) == u1548.Kind && e3980.Text.toList == u1548.Text.toList)) hS (y_pickf hS rfl hb3989 rfl) rfl rfl fun a hS => ?_)
                refine wl rfl (ky (v := .bool ((e3980.Kind : Int) == u1548.Kind && e3980.Text.toList == u1548.Text.toList)) hS (y_assign hS rfl) rfl rfl fun a hS => ?_)
                refine wpList_nil ?_
                try simp only [Exit.then, Exit.inBlock, ↓reduceIte, Nat.reduceEqDiff]
                refine hK567 _ _ ?_
                refine r_list ?_
                refine wl rfl (ky (v := .int .i64 (IntKind.i64.wrap (g3965 + 1))) hS (y_int hS rfl rfl rfl) rfl rfl fun a hS => ?_)
                refine wl rfl (ky (v := .int .i64 (IntKind.i64.wrap (g3965 + 1))) hS (y_move hS rfl) rfl rfl fun a hS => ?_)
                refine wpList_nil ?_
                try simp only [Exit.then, Exit.inBlock, ↓reduceIte, Nat.reduceEqDiff]
                exact ⟨((e3980.Kind : Int) == u1548.Kind && e3980.Text.toList == u1548.Text.toList, IntKind.i64.wrap (g3965 + 1)), (Option.some.inj hM).symm, ((e3980.Kind : Int) == u1548.Kind && e3980.Text.toList == u1548.Text.toList), (IntKind.i64.wrap (g3965 + 1)), rfl, (hS.meet [1, 2, 3, 4] (by decide) ⟨rfl, rfl, rfl, rfl, rfl, rfl, rfl, rfl, rfl, rfl, rfl, trivial⟩ ⟨rfl, rfl, rfl, rfl, trivial⟩ ⟨⟨1, rfl⟩, ⟨2, rfl⟩, ⟨3, rfl⟩, ⟨4, rfl⟩, trivial⟩)⟩
            · replace hM := cf hb3979 hM
              refine c_f hS rfl hb3979 ?_
              refine wp_exit ?_
              try simp only [Exit.then, Exit.inBlock, ↓reduceIte, Nat.reduceEqDiff]
              injection hM with hM
              subst hM
              have hr := hf2 _ rfl
              subst hr
              have hM : law26_RecordReaders_j6 u1548 u1553 i3015 g3016 e3740 has3964 = some f1 := hMo2
              exact ⟨has3964, (hS.meet [0, 1, 2, 3] (by decide) ⟨rfl, rfl, rfl, rfl, rfl, rfl, rfl, rfl, trivial⟩ ⟨rfl, rfl, rfl, rfl, trivial⟩ ⟨⟨0, rfl⟩, ⟨1, rfl⟩, ⟨2, rfl⟩, ⟨3, rfl⟩, trivial⟩), hM⟩
          · rintro a w ⟨has3779, hS, hM⟩
            unfold law26_RecordReaders_j6 at hM
            refine seq_j (J := fun a w => ∃ (i3822 : Int), St W0 No T 86 [(6, .pointer (some ⟨b1550, 0, none⟩)), (7, vz1554_2), (8, .int .i64 i3822), (10, .pointer (some ⟨b3749, 0, none⟩)), (28, vz1544_3), (29, .int .i64 (u1543.1.length : Int)), (30, .int .i64 g3016)] [.own vz1554_2 28 R_KeyD.size clz1554_3, .own vz1544_3 54 R_RecordD.size clz1544_4, .box b1550 [.int .i64 u1548.Kind, .string u1548.Text] 28, .box b3749 [.int .i64 e3740.Key.Kind, .string e3740.Key.Text, .string e3740.Value, v3741, .int .i64 e3740.Changed, .int .i64 e3740.Verified, .int .i64 e3740.Cost, .bool e3740.Dirty] 54] [RowsF R_KeyD clz1554_3 u1553, RowsF R_RecordD clz1544_4 u1543.1, SlF R_KeyD v3741 e3740.Reads, LvF] a w ∧ law26_RecordReaders_j5 u1548 g3016 e3740 i3822 = some f1) ?_ ?_
            · skip
              refine wp_seq_k fun K551 hK551 => ?_
              refine r_list ?_
              refine wl rfl (ky (v := .bool has3779) hS (y_move hS rfl) rfl rfl fun a hS => ?_)
              refine wpList_nil ?_
              try simp only [Exit.then, Exit.inBlock, ↓reduceIte, Nat.reduceEqDiff]
              refine hK551 _ _ ?_
              rcases bool2 (has3779) with hb3910 | hb3910
              · replace hM := ct hb3910 hM
                refine c_t hS rfl hb3910 ?_
                refine wp_seq_k fun K552 hK552 => ?_
                refine wp_seq_k fun K553 hK553 => ?_
                refine draws [] hS mixed rfl (fun c a d v w h => by cases d <;> exact h) fun w hQ hS => ?_
                refine dy 0 (v := .int .i64 i3015) rfl (by kernel_rfl) (by kernel_rfl) (by kernel_rfl) rfl hQ hS (y_move hS rfl) rfl rfl rfl fun a hS => ?_
                refine dy 1 (v := vz1554_2) rfl (by kernel_rfl) (by kernel_rfl) (by kernel_rfl) rfl hQ hS (y_move hS rfl) rfl rfl rfl fun a hS => ?_
                refine dy 2 (v := .int .i64 (u1553.length : Int)) rfl (by kernel_rfl) (by kernel_rfl) (by kernel_rfl) rfl hQ hS (y_leno (R := R_KeyD) (xs := u1553) hS sl22 rfl 0 rfl 0 rfl) rfl rfl rfl fun a hS => ?_
                refine dy 3 (v := .bool (decide (((u1553.length : Int) : Int) ≤ i3015))) rfl (by kernel_rfl) (by kernel_rfl) (by kernel_rfl) rfl hQ hS (y_int hS rfl rfl rfl) rfl rfl rfl fun a hS => ?_
                refine dy 4 (v := .bool (decide (((u1553.length : Int) : Int) ≤ i3015))) rfl (by kernel_rfl) (by kernel_rfl) (by kernel_rfl) rfl hQ hS (y_move hS rfl) rfl rfl rfl fun a hS => ?_
                rcases bool2 (decide (((u1553.length : Int) : Int) ≤ i3015)) with hb3941 | hb3941
                · replace hM := ct hb3941 hM
                  refine dyn 5 rfl (by kernel_rfl) (by kernel_rfl) (by kernel_rfl) hQ hS rfl rfl rfl hb3941 rfl rfl fun a hS => ?_
                  refine dyn 6 rfl (by kernel_rfl) (by kernel_rfl) (by kernel_rfl) hQ hS rfl rfl rfl hb3941 rfl rfl fun a hS => ?_
                  refine dyn 7 rfl (by kernel_rfl) (by kernel_rfl) (by kernel_rfl) hQ hS rfl rfl rfl hb3941 rfl rfl fun a hS => ?_
                  refine dyn 8 rfl (by kernel_rfl) (by kernel_rfl) (by kernel_rfl) hQ hS rfl rfl rfl hb3941 rfl rfl fun a hS => ?_
                  refine dyn 9 rfl (by kernel_rfl) (by kernel_rfl) (by kernel_rfl) hQ hS rfl rfl rfl hb3941 rfl rfl fun a hS => ?_
                  refine dyn 10 rfl (by kernel_rfl) (by kernel_rfl) (by kernel_rfl) hQ hS rfl rfl rfl hb3941 rfl rfl fun a hS => ?_
                  refine dyn 11 rfl (by kernel_rfl) (by kernel_rfl) (by kernel_rfl) hQ hS rfl rfl rfl hb3941 rfl rfl fun a hS => ?_
                  refine dy 12 (v := .bool true) rfl (by kernel_rfl) (by kernel_rfl) (by kernel_rfl) rfl hQ hS (y_pickt hS rfl hb3941 rfl) rfl rfl rfl fun a hS => ?_
                  refine wpE_done (by kernel_rfl) ?_ _
                  try simp only [Exit.then, Exit.inBlock, ↓reduceIte, Nat.reduceEqDiff]
                  refine hK553 _ _ ?_
                  refine c_t hS rfl rfl ?_
                  refine wp_seq_k fun K554 hK554 => ?_
                  refine r_list ?_
                  refine wl rfl (ky (v := .bool false) hS (y_assign hS rfl) rfl rfl fun a hS => ?_)
                  refine wpList_nil ?_
                  try simp only [Exit.then, Exit.inBlock, ↓reduceIte, Nat.reduceEqDiff]
                  refine hK554 _ _ ?_
                  refine wp_ret ?_
                  injection hM with hM
                  subst hM
                  have hr := hf1 _ rfl
                  subst hr
                  replace hMo1 := el_out hMo1
                  have hM := hMo1
                  injection hM with hM
                  subst hM
                  try simp only [Exit.then, Exit.inBlock, ↓reduceIte, Nat.reduceEqDiff]
                  refine ret_ok hS Tryd.results9 (res_tmp hS rfl res_nil) ?_
                  exact rfl
                · replace hM := cf hb3941 hM
                  refine dyg 5 (v := vz1554_2) rfl (by kernel_rfl) (by kernel_rfl) (by kernel_rfl) rfl hQ hS (y_move hS rfl) rfl rfl rfl hb3941 rfl rfl fun a hS => ?_
                  refine dyg 6 (v := .int .i64 i3015) rfl (by kernel_rfl) (by kernel_rfl) (by kernel_rfl) rfl hQ hS (y_move hS rfl) rfl rfl rfl hb3941 rfl rfl fun a hS => ?_
                  obtain ⟨e3942, he3942, hM⟩ := bd hM
                  obtain ⟨b3943, o3944, p3949, cs3946, hr3945, hO3947, hC3948, hy3950⟩ := d_indexo (R := R_KeyD) hS sl22 ty28 0 rfl 0 rfl he3942
                  obtain rfl := hr3945
                  refine dyg 7 (v := .pointer (some ⟨b3943, o3944, none⟩)) rfl (by kernel_rfl) (by kernel_rfl) (by kernel_rfl) rfl hQ hS (hy3950 rfl rfl) rfl rfl rfl hb3941 rfl rfl fun a hS => ?_
                  refine dyg (l := []) 8 (v := .agg #[.int .i64 e3942.Kind, .string e3942.Text]) rfl (by kernel_rfl) (by kernel_rfl) (by kernel_rfl) (by kernel_rfl) hQ hS (y_loado (k := 0) hS ty28 0 rfl hO3947 hC3948 rfl eo_nil (us := [.int .i64 e3942.Kind, .string e3942.Text]) rfl rfl (fun h => by cases h)) rfl rfl rfl hb3941 rfl rfl fun a hS => ?_
                  refine dyg 9 (v := .pointer (some ⟨b3749, 0 + 0, none⟩)) rfl (by kernel_rfl) (by kernel_rfl) (by kernel_rfl) rfl hQ hS (y_fld hS rfl fl54_0) rfl rfl rfl hb3941 rfl rfl fun a hS => ?_
                  refine dyg (l := []) 10 (v := .agg #[.int .i64 e3740.Key.Kind, .string e3740.Key.Text]) rfl (by kernel_rfl) (by kernel_rfl) (by kernel_rfl) (by kernel_rfl) hQ hS (y_load hS rfl ty28 3 rfl eo_nil (us := [.int .i64 e3740.Key.Kind, .string e3740.Key.Text]) rfl rfl (fun h => by cases h)) rfl rfl rfl hb3941 rfl rfl fun a hS => ?_
                  refine dyg 11 (v := .bool (!((e3942.Kind : Int) == e3740.Key.Kind && e3942.Text.toList == e3740.Key.Text.toList))) rfl (by kernel_rfl) (by kernel_rfl) (by kernel_rfl) rfl hQ hS (eq28n hS rfl rfl) rfl rfl rfl hb3941 rfl rfl fun a hS => ?_
                  refine dy 12 (v := .bool (!((e3942.Kind : Int) == e3740.Key.Kind && e3942.Text.toList == e3740.Key.Text.toList))) rfl (by kernel_rfl) (by kernel_rfl) (by kernel_rfl) rfl hQ hS (y_pickf hS rfl hb3941 rfl) rfl rfl rfl fun a hS => ?_
                  refine wpE_done (by kernel_rfl) ?_ _
                  try simp only [Exit.then, Exit.inBlock, ↓reduceIte, Nat.reduceEqDiff]
                  refine hK553 _ _ ?_
                  rcases bool2 (!((e3942.Kind : Int) == e3740.Key.Kind && e3942.Text.toList == e3740.Key.Text.toList)) with hb3951 | hb3951
                  · replace hM := ct hb3951 hM
                    refine c_t hS rfl hb3951 ?_
                    refine wp_seq_k fun K555 hK555 => ?_
                    refine r_list ?_
                    refine wl rfl (ky (v := .bool false) hS (y_assign hS rfl) rfl rfl fun a hS => ?_)
                    refine wpList_nil ?_
                    try simp only [Exit.then, Exit.inBlock, ↓reduceIte, Nat.reduceEqDiff]
                    refine hK555 _ _ ?_
                    refine wp_ret ?_
                    injection hM with hM
                    subst hM
                    have hr := hf1 _ rfl
                    subst hr
                    replace hMo1 := el_out hMo1
                    have hM := hMo1
                    injection hM with hM
                    subst hM
                    try simp only [Exit.then, Exit.inBlock, ↓reduceIte, Nat.reduceEqDiff]
                    refine ret_ok hS Tryd.results9 (res_tmp hS rfl res_nil) ?_
                    exact rfl
                  · replace hM := cf hb3951 hM
                    refine c_f hS rfl hb3951 ?_
                    refine wp_skip ?_
                    try simp only [Exit.then, Exit.inBlock, ↓reduceIte, Nat.reduceEqDiff]
                    refine hK552 _ _ ?_
                    refine r_list ?_
                    refine wl rfl (ky (v := .int .i64 i3015) hS (y_move hS rfl) rfl rfl fun a hS => ?_)
                    refine wl rfl (ky (v := .int .i64 (IntKind.i64.wrap (i3015 + 1))) hS (y_int hS rfl rfl rfl) rfl rfl fun a hS => ?_)
                    refine wl rfl (ky (v := .int .i64 (IntKind.i64.wrap (i3015 + 1))) hS (y_assign hS rfl) rfl rfl fun a hS => ?_)
                    refine wpList_nil ?_
                    try simp only [Exit.then, Exit.inBlock, ↓reduceIte, Nat.reduceEqDiff]
                    exact ⟨(IntKind.i64.wrap (i3015 + 1)), (hS.meet [0, 1, 2, 3] (by decide) ⟨rfl, rfl, rfl, rfl, rfl, rfl, rfl, trivial⟩ ⟨rfl, rfl, rfl, rfl, trivial⟩ ⟨⟨0, rfl⟩, ⟨1, rfl⟩, ⟨2, rfl⟩, ⟨3, rfl⟩, trivial⟩), hM⟩
              · replace hM := cf hb3910 hM
                refine c_f hS rfl hb3910 ?_
                refine wp_skip ?_
                try simp only [Exit.then, Exit.inBlock, ↓reduceIte, Nat.reduceEqDiff]
                exact ⟨i3015, (hS.meet [0, 1, 2, 3] (by decide) ⟨rfl, rfl, rfl, rfl, rfl, rfl, rfl, trivial⟩ ⟨rfl, rfl, rfl, rfl, trivial⟩ ⟨⟨0, rfl⟩, ⟨1, rfl⟩, ⟨2, rfl⟩, ⟨3, rfl⟩, trivial⟩), hM⟩
            · rintro a w ⟨i3822, hS, hM⟩
              unfold law26_RecordReaders_j5 at hM
              refine wp_seq_k fun K548 hK548 => ?_
              refine r_list ?_
              refine wl rfl (ky (v := .agg #[.int .i64 e3740.Key.Kind, .string e3740.Key.Text, .string e3740.Value, v3741, .int .i64 e3740.Changed, .int .i64 e3740.Verified, .int .i64 e3740.Cost, .bool e3740.Dirty]) hS (y_load hS rfl ty54 3 rfl id (us := [.int .i64 e3740.Key.Kind, .string e3740.Key.Text, .string e3740.Value, v3741, .int .i64 e3740.Changed, .int .i64 e3740.Verified, .int .i64 e3740.Cost, .bool e3740.Dirty]) rfl rfl (fun h => by cases h)) rfl rfl fun a hS => ?_)
              refine wl rfl (k_alloc hS ze54 rfl fun b3823 hnb3825 a w hk hS => ?_)
              refine wl rfl (k_store hS rfl rfl (us := [.int .i64 e3740.Key.Kind, .string e3740.Key.Text, .string e3740.Value, v3741, .int .i64 e3740.Changed, .int .i64 e3740.Verified, .int .i64 e3740.Cost, .bool e3740.Dirty]) rfl ty54 0 rfl rfl rfl (oc rfl (oc rfl (oc rfl (oc (SlR.one ((hS.get 2 rfl) : SlR R_KeyD _ _ _ _)) (oc rfl (oc rfl (oc rfl (oc rfl on)))))))) fun w hk hS => ?_)
              refine wpList_nil ?_
              try simp only [Exit.then, Exit.inBlock, ↓reduceIte, Nat.reduceEqDiff]
              refine hK548 _ _ ?_
              refine seq_j (J := fun a w => ∃ (more3868 : (List KeyD)) (v3869 : Value) (cl3870 : (List Value)), St W0 No T 86 [(6, .pointer (some ⟨b1550, 0, none⟩)), (7, vz1554_2), (8, .int .i64 i3822), (10, .pointer (some ⟨b3749, 0, none⟩)), (14, .pointer (some ⟨b3823, 0, none⟩)), (28, vz1544_3), (29, .int .i64 (u1543.1.length : Int)), (30, .int .i64 g3016)] [.own vz1554_2 28 R_KeyD.size clz1554_3, .own vz1544_3 54 R_RecordD.size clz1544_4, .box b1550 [.int .i64 u1548.Kind, .string u1548.Text] 28, .box b3749 [.int .i64 e3740.Key.Kind, .string e3740.Key.Text, .string e3740.Value, v3741, .int .i64 e3740.Changed, .int .i64 e3740.Verified, .int .i64 e3740.Cost, .bool e3740.Dirty] 54, .own v3869 28 R_KeyD.size cl3870, .box b3823 [.int .i64 e3740.Key.Kind, .string e3740.Key.Text, .string e3740.Value, v3869, .int .i64 e3740.Changed, .int .i64 e3740.Verified, .int .i64 e3740.Cost, .bool e3740.Dirty] 54] [RowsF R_KeyD clz1554_3 u1553, RowsF R_RecordD clz1544_4 u1543.1, SlF R_KeyD v3741 e3740.Reads, RowsF R_KeyD cl3870 more3868, LvF] a w ∧ law26_RecordReaders_j4 g3016 e3740 i3822 more3868 = some f1) ?_ ?_
              · skip
                replace hS := hS.nilRow R_KeyD 28 (by decide)
                refine draws [(2, .blk (Value.ownBlock (.slice none 0 0))), (5, .any), (7, .blk (some b3823))] hS mixed rfl (fun c a d v w h => by cases d <;> exact h) fun w hQ hS => ?_
                refine dy 0 (v := .pointer (some ⟨b3749, 0 + 3, none⟩)) rfl (by kernel_rfl) (by kernel_rfl) (by kernel_rfl) rfl hQ hS (y_fld hS rfl fl54_2) rfl rfl rfl fun a hS => ?_
                refine dy (l := []) 1 (v := v3741) rfl (by kernel_rfl) (by kernel_rfl) (by kernel_rfl) (by kernel_rfl) hQ hS (y_load hS rfl ty22 5 rfl eo_nil (us := [v3741]) rfl rfl (fun _ => rfl)) rfl rfl rfl fun a hS => ?_
                refine dy (l := [.blk (Value.ownBlock (.slice none 0 0))]) 3 (v := .agg #[.int .i64 u1548.Kind, .string u1548.Text]) rfl (by kernel_rfl) (by kernel_rfl) (by kernel_rfl) (by kernel_rfl) hQ hS (y_load hS rfl ty28 4 rfl (eo_ne hS 4 rfl rfl 0 rfl rfl (by decide) eo_nil) (us := [.int .i64 u1548.Kind, .string u1548.Text]) rfl rfl (fun h => by cases h)) rfl rfl rfl fun a hS => ?_
                obtain ⟨hg3900, hM⟩ := gd_some hM
                refine wpE_two (i := 2) (j := 4) rfl rfl (by kernel_rfl) rfl rfl ?_ ?_
                · skip
                  skip
                  refine id (k_apps (R := R_KeyD) (xs := ([] : List KeyD)) (ys := e3740.Reads) hS el22 (by decide) (by decide) rfl rfl 0 rfl 0 rfl 3 rfl hg3900 rfl fun v3901 cl3902 a w hk hS => ⟨stM rfl hk etOwn, ?_⟩)
                  refine wpE_one (i := 4) rfl (by kernel_rfl) rfl (k_bslice (ps := [(0, .tmp 68)]) hS el22 ze28 (zl := [.int .i64 0, .string (ByteArray.mk #[])]) (by kernel_rfl) rfl (us := [[.int .i64 u1548.Kind, .string u1548.Text]]) ⟨rfl, trivial⟩ (ws := [.int .i64 u1548.Kind, .string u1548.Text]) rfl rfl rfl rfl fun b3904 a w hk hS => ⟨stN (hk), ?_⟩)
                  replace hS := hS.lit (R := R_KeyD) (us := [.int .i64 u1548.Kind, .string u1548.Text]) (xs := [u1548]) 0 rfl (by decide) (RowsOk.one_ (R := R_KeyD) (x := u1548) rfl) rfl rfl
                  replace hS := hS.freeze (R := R_KeyD) 0 rfl 0 rfl
                  obtain ⟨hg3906, hM⟩ := gd_some hM
                  refine wpE_one (i := 5) rfl (by kernel_rfl) rfl (k_apps (R := R_KeyD) (xs := (([] : List KeyD) ++ e3740.Reads)) (ys := [u1548]) hS el22 (by decide) (by decide) rfl rfl 0 rfl 2 rfl 0 rfl hg3906 rfl fun v3907 cl3908 a w hk hS => ⟨stM rfl hk etAny, ?_⟩)
                  refine dy 6 (v := .pointer (some ⟨b3823, 0 + 3, none⟩)) rfl (by kernel_rfl) (by kernel_rfl) (by kernel_rfl) rfl hQ hS (y_fld hS rfl fl54_2) rfl rfl rfl fun a hS => ?_
                  refine wpE_one (i := 7) rfl (by kernel_rfl) rfl (k_store hS rfl rfl (us := [v3907]) (cells1 (own_one (hS.own _ (List.mem_of_getElem? (i := 0) rfl)).1)) ty22 1 rfl rfl rfl (oc (own_one (hS.own _ (List.mem_of_getElem? (i := 0) rfl)).1) on) fun w hk hS => ⟨stM rfl hk etBox, ?_⟩)
                  refine wpE_done (by kernel_rfl) ?_ _
                  try simp only [Exit.then, Exit.inBlock, ↓reduceIte, Nat.reduceEqDiff]
                  exact ⟨((([] : List KeyD) ++ e3740.Reads) ++ ([u1548])), v3907, cl3908, (hS.meet [2, 3, 4, 5, 0, 1] (by decide) ⟨rfl, rfl, rfl, rfl, rfl, rfl, rfl, rfl, trivial⟩ ⟨rfl, rfl, rfl, rfl, rfl, rfl, trivial⟩ ⟨⟨5, rfl⟩, ⟨6, rfl⟩, ⟨7, rfl⟩, ⟨0, rfl⟩, ⟨8, rfl⟩, trivial⟩), hM⟩
                · skip
                  skip
                  refine id (k_bslice (ps := [(0, .tmp 68)]) hS el22 ze28 (zl := [.int .i64 0, .string (ByteArray.mk #[])]) (by kernel_rfl) rfl (us := [[.int .i64 u1548.Kind, .string u1548.Text]]) ⟨rfl, trivial⟩ (ws := [.int .i64 u1548.Kind, .string u1548.Text]) rfl rfl rfl rfl fun b3901 a w hk hS => ⟨stN (hk), ?_⟩)
                  refine wpE_one (i := 2) rfl (by kernel_rfl) rfl (k_apps (R := R_KeyD) (xs := ([] : List KeyD)) (ys := e3740.Reads) hS el22 (by decide) (by decide) rfl rfl 1 rfl 0 rfl 3 rfl hg3900 rfl fun v3903 cl3904 a w hk hS => ⟨stM rfl hk etOwn, ?_⟩)
                  replace hS := hS.lit (R := R_KeyD) (us := [.int .i64 u1548.Kind, .string u1548.Text]) (xs := [u1548]) 0 rfl (by decide) (RowsOk.one_ (R := R_KeyD) (x := u1548) rfl) rfl rfl
                  replace hS := hS.freeze (R := R_KeyD) 0 rfl 0 rfl
                  obtain ⟨hg3906, hM⟩ := gd_some hM
                  refine wpE_one (i := 5) rfl (by kernel_rfl) rfl (k_apps (R := R_KeyD) (xs := (([] : List KeyD) ++ e3740.Reads)) (ys := [u1548]) hS el22 (by decide) (by decide) rfl rfl 0 rfl 2 rfl 0 rfl hg3906 rfl fun v3907 cl3908 a w hk hS => ⟨stM rfl hk etAny, ?_⟩)
                  refine dy 6 (v := .pointer (some ⟨b3823, 0 + 3, none⟩)) rfl (by kernel_rfl) (by kernel_rfl) (by kernel_rfl) rfl hQ hS (y_fld hS rfl fl54_2) rfl rfl rfl fun a hS => ?_
                  refine wpE_one (i := 7) rfl (by kernel_rfl) rfl (k_store hS rfl rfl (us := [v3907]) (cells1 (own_one (hS.own _ (List.mem_of_getElem? (i := 0) rfl)).1)) ty22 1 rfl rfl rfl (oc (own_one (hS.own _ (List.mem_of_getElem? (i := 0) rfl)).1) on) fun w hk hS => ⟨stM rfl hk etBox, ?_⟩)
                  refine wpE_done (by kernel_rfl) ?_ _
                  try simp only [Exit.then, Exit.inBlock, ↓reduceIte, Nat.reduceEqDiff]
                  exact ⟨((([] : List KeyD) ++ e3740.Reads) ++ ([u1548])), v3907, cl3908, (hS.meet [2, 3, 4, 5, 0, 1] (by decide) ⟨rfl, rfl, rfl, rfl, rfl, rfl, rfl, rfl, trivial⟩ ⟨rfl, rfl, rfl, rfl, rfl, rfl, trivial⟩ ⟨⟨5, rfl⟩, ⟨6, rfl⟩, ⟨7, rfl⟩, ⟨0, rfl⟩, ⟨8, rfl⟩, trivial⟩), hM⟩
              · rintro a w ⟨more3868, v3869, cl3870, hS, hM⟩
                unfold law26_RecordReaders_j4 at hM
                refine wp_seq_k fun K549 hK549 => ?_
                refine draws [] hS mixed rfl (fun c a d v w h => by cases d <;> exact h) fun w hQ hS => ?_
                refine dy (l := []) 0 (v := .agg #[.int .i64 e3740.Key.Kind, .string e3740.Key.Text, .string e3740.Value, v3869, .int .i64 e3740.Changed, .int .i64 e3740.Verified, .int .i64 e3740.Cost, .bool e3740.Dirty]) rfl (by kernel_rfl) (by kernel_rfl) (by kernel_rfl) (by kernel_rfl) hQ hS (y_load hS rfl ty54 5 rfl eo_nil (us := [.int .i64 e3740.Key.Kind, .string e3740.Key.Text, .string e3740.Value, v3869, .int .i64 e3740.Changed, .int .i64 e3740.Verified, .int .i64 e3740.Cost, .bool e3740.Dirty]) rfl rfl (fun h => by cases h)) rfl rfl rfl fun a hS => ?_
                refine dy (l := []) 2 (v := .agg #[.int .i64 e3740.Key.Kind, .string e3740.Key.Text, .string e3740.Value, v3741, .int .i64 e3740.Changed, .int .i64 e3740.Verified, .int .i64 e3740.Cost, .bool e3740.Dirty]) rfl (by kernel_rfl) (by kernel_rfl) (by kernel_rfl) (by kernel_rfl) hQ hS (y_load hS rfl ty54 3 rfl eo_nil (us := [.int .i64 e3740.Key.Kind, .string e3740.Key.Text, .string e3740.Value, v3741, .int .i64 e3740.Changed, .int .i64 e3740.Verified, .int .i64 e3740.Cost, .bool e3740.Dirty]) rfl rfl (fun h => by cases h)) rfl rfl rfl fun a hS => ?_
                have hL := hS
                replace hL := hL.freeze (R := R_KeyD) 4 rfl 3 rfl
                obtain ⟨u3884, hu3884, hM⟩ := bd hM
                refine wpE_one (i := 1) rfl (by kernel_rfl) rfl (k_call hS ci47 rfl rfl (record_Size_c _ _ hL.dlt (RecordD.mk e3740.Key e3740.Value more3868 e3740.Changed e3740.Verified e3740.Cost e3740.Dirty) _ (hL.get 0 rfl) _ hu3884) fun _ w hR a hk hA => ⟨stN (hk), ?_⟩)
                have he := Eq.symm hR
                subst he
                have hS := hA [] (fun r hr => by cases hr) List.Pairwise.nil
                obtain ⟨u3886, hu3886, hM⟩ := bd hM
                refine wpE_one (i := 3) rfl (by kernel_rfl) rfl (k_call hS ci47 rfl rfl (record_Size_c _ _ hS.dlt e3740 _ (hS.get 2 rfl) _ hu3886) fun _ w hR a hk hA => ⟨stN (hk), ?_⟩)
                have he := Eq.symm hR
                subst he
                have hS := hA [] (fun r hr => by cases hr) List.Pairwise.nil
                refine dy 4 (v := .int .i64 (IntKind.i64.wrap (u3886 + 8))) rfl (by kernel_rfl) (by kernel_rfl) (by kernel_rfl) rfl hQ hS (y_int hS rfl rfl rfl) rfl rfl rfl fun a hS => ?_
                refine dy 5 (v := .bool ((u3884 : Int) != (IntKind.i64.wrap (u3886 + 8)))) rfl (by kernel_rfl) (by kernel_rfl) (by kernel_rfl) rfl hQ hS (y_int hS rfl rfl rfl) rfl rfl rfl fun a hS => ?_
                refine wpE_done (by kernel_rfl) ?_ _
                try simp only [Exit.then, Exit.inBlock, ↓reduceIte, Nat.reduceEqDiff]
                refine hK549 _ _ ?_
                rcases bool2 ((u3884 : Int) != (IntKind.i64.wrap (u3886 + 8))) with hb3888 | hb3888
                · replace hM := ct hb3888 hM
                  refine c_t hS rfl hb3888 ?_
                  refine wp_seq_k fun K550 hK550 => ?_
                  refine r_list ?_
                  refine wl rfl (ky (v := .bool false) hS (y_assign hS rfl) rfl rfl fun a hS => ?_)
                  refine wpList_nil ?_
                  try simp only [Exit.then, Exit.inBlock, ↓reduceIte, Nat.reduceEqDiff]
                  refine hK550 _ _ ?_
                  refine wp_ret ?_
                  injection hM with hM
                  subst hM
                  have hr := hf1 _ rfl
                  subst hr
                  replace hMo1 := el_out hMo1
                  have hM := hMo1
                  injection hM with hM
                  subst hM
                  try simp only [Exit.then, Exit.inBlock, ↓reduceIte, Nat.reduceEqDiff]
                  refine ret_ok hS Tryd.results9 (res_tmp hS rfl res_nil) ?_
                  exact rfl
                · replace hM := cf hb3888 hM
                  refine c_f hS rfl hb3888 ?_
                  refine wp_skip ?_
                  try simp only [Exit.then, Exit.inBlock, ↓reduceIte, Nat.reduceEqDiff]
                  exact ⟨i3822, (hS.meet [0, 1, 2] (by decide) ⟨rfl, rfl, rfl, rfl, rfl, rfl, trivial⟩ ⟨rfl, rfl, rfl, trivial⟩ ⟨⟨0, rfl⟩, ⟨1, rfl⟩, ⟨4, rfl⟩, trivial⟩), hM⟩
        · rintro a w ⟨i3739, hS, hM⟩
          unfold law26_RecordReaders_j3 at hM
          refine r_list ?_
          refine wl rfl (ky (v := .int .i64 (IntKind.i64.wrap (g3016 + 1))) hS (y_int hS rfl rfl rfl) rfl rfl fun a hS => ?_)
          refine wl rfl (ky (v := .int .i64 (IntKind.i64.wrap (g3016 + 1))) hS (y_move hS rfl) rfl rfl fun a hS => ?_)
          refine wpList_nil ?_
          try simp only [Exit.then, Exit.inBlock, ↓reduceIte, Nat.reduceEqDiff]
          exact ⟨(i3739, IntKind.i64.wrap (g3016 + 1)), (Option.some.inj hM).symm, i3739, (IntKind.i64.wrap (g3016 + 1)), rfl, (hS.meet [0, 1, 2] (by decide) ⟨rfl, rfl, rfl, rfl, rfl, rfl, trivial⟩ ⟨rfl, rfl, rfl, trivial⟩ ⟨⟨0, rfl⟩, ⟨1, rfl⟩, ⟨2, rfl⟩, trivial⟩)⟩
      · replace hM := cf hb3499 hM
        refine c_f hS rfl hb3499 ?_
        refine wp_exit ?_
        try simp only [Exit.then, Exit.inBlock, ↓reduceIte, Nat.reduceEqDiff]
        injection hM with hM
        subst hM
        have hr := hf1 _ rfl
        subst hr
        replace hMo1 := el_go hMo1
        have hM : law26_RecordReaders_j2 u1553 i3015 = some y := hMo1
        exact ⟨i3015, (hS.meet [0] (by decide) ⟨rfl, rfl, trivial⟩ ⟨rfl, trivial⟩ ⟨⟨0, rfl⟩, ⟨2, rfl⟩, trivial⟩), hM⟩
    · rintro a w ⟨i2522, hS, hM⟩
      unfold law26_RecordReaders_j2 at hM
      refine seq_j (J := fun a w => ∃ (g2529 : Bool), St W0 No T 86 [(4, .bool g2529)] [] [LvF] a w ∧ law26_RecordReaders_j1 g2529 = some y) ?_ ?_
      · skip
        refine r_list ?_
        refine wl rfl (ky (v := .int .i64 i2522) hS (y_move hS rfl) rfl rfl fun a hS => ?_)
        refine wl rfl (ky (v := vz1554_2) hS (y_move hS rfl) rfl rfl fun a hS => ?_)
        refine wl rfl (ky (v := .int .i64 (u1553.length : Int)) hS (y_leno (R := R_KeyD) (xs := u1553) hS sl22 rfl 0 rfl 0 rfl) rfl rfl fun a hS => ?_)
        refine wl rfl (ky (v := .bool ((i2522 : Int) == (u1553.length : Int))) hS (y_int hS rfl rfl rfl) rfl rfl fun a hS => ?_)
        refine wl rfl (ky (v := .bool ((i2522 : Int) == (u1553.length : Int))) hS (y_move hS rfl) rfl rfl fun a hS => ?_)
        rcases bool2 ((i2522 : Int) == (u1553.length : Int)) with hb2530 | hb2530
        · replace hM := ct hb2530 hM
          obtain ⟨u2531, hu2531, hM⟩ := bd hM
          refine wg hS rfl rfl rfl hb2530 (k_call hS ci33 rfl rfl (law26_awake_c _ _ hS.dlt (hS.get 1 rfl) _ hu2531) fun _ w hR a hk hA => ?_)
          have he := Eq.symm hR
          subst he
          have hS := hA [] (fun r hr => by cases hr) List.Pairwise.nil
          refine wl rfl (ky (v := .bool u2531) hS (y_pickt hS rfl hb2530 rfl) rfl rfl fun a hS => ?_)
          refine wl rfl (ky (v := .bool u2531) hS (y_assign hS rfl) rfl rfl fun a hS => ?_)
          refine wpList_nil ?_
          try simp only [Exit.then, Exit.inBlock, ↓reduceIte, Nat.reduceEqDiff]
          exact ⟨u2531, (hS.meet [] (by decide) ⟨rfl, trivial⟩ trivial ⟨⟨1, rfl⟩, trivial⟩), hM⟩
        · replace hM := cf hb2530 hM
          refine wn hS rfl rfl rfl hb2530 rfl rfl fun a hS => ?_
          refine wl rfl (ky (v := .bool false) hS (y_pickf hS rfl hb2530 rfl) rfl rfl fun a hS => ?_)
          refine wl rfl (ky (v := .bool false) hS (y_assign hS rfl) rfl rfl fun a hS => ?_)
          refine wpList_nil ?_
          try simp only [Exit.then, Exit.inBlock, ↓reduceIte, Nat.reduceEqDiff]
          exact ⟨false, (hS.meet [] (by decide) ⟨rfl, trivial⟩ trivial ⟨⟨1, rfl⟩, trivial⟩), hM⟩
      · rintro a w ⟨g2529, hS, hM⟩
        unfold law26_RecordReaders_j1 at hM
        refine wp_ret ?_
        injection hM with hM
        subst hM
        try simp only [Exit.then, Exit.inBlock, ↓reduceIte, Nat.reduceEqDiff]
        refine ret_ok hS Tryd.results9 (res_tmp hS rfl res_nil) ?_
        exact rfl
end Go.Proofs.YtjoilbmkcknnfaaDoor
