/- What functions of the program compute; that they do. -/
import Derived.Test.YtdappapdddnciaaDoorMT
import Derived.Test.YtdappapdddnciaaDoorQ2
import Derived.Test.YtdappapdddnciaaDoorD0
import Derived.Test.YtdappapdddnciaaDoorD1
import Derived.Test.YtdappapdddnciaaDoorE2
set_option linter.unusedVariables false
set_option linter.unusedSimpArgs false
namespace Go.Proofs.YtdappapdddnciaaDoor
open Go.RowKit
noncomputable def law29_GroupAlone_j1 (g665 : Bool) : Option Bool := some (g665)
noncomputable def law29_GroupAlone_j2 (u403 : ((List RecordD) × DiceD)) (u406 : Int) : Option Bool := (ref23_Cell 1).bind fun u552 => (ref26_Put u403.1 (RecordD.mk (KeyD.mk 32 (ByteArray.mk #[57])) (ByteArray.mk #[]) ([(KeyD.mk 32 (ByteArray.mk #[57])), u552]) 0 0 3 false)).bind fun u556 => (group_Of u556 3 (KeyD.mk 32 (ByteArray.mk #[57]))).bind fun u559 => (ref23_SameList u559 ([(KeyD.mk 32 (ByteArray.mk #[57]))])).bind fun u693 => cond u693 ((group_Checks u556 u559).bind fun u696 => cond (((u696.length : Int) : Int) == 1) ((group_Of u403.1 u406 (KeyD.mk 32 (ByteArray.mk #[56, 56]))).bind fun u700 => (ref23_SameList u700 ([(KeyD.mk 32 (ByteArray.mk #[56, 56]))])).bind fun u705 => cond u705 ((group_Checks u403.1 ([(KeyD.mk 32 (ByteArray.mk #[56, 56]))])).bind fun u710 => cond (((u710.length : Int) : Int) == 0) ((law29_awake).bind fun u714 => law29_GroupAlone_j1 u714) (law29_GroupAlone_j1 false)) (law29_GroupAlone_j1 false)) (law29_GroupAlone_j1 false)) (law29_GroupAlone_j1 false)
noncomputable def law29_GroupAlone_j3 (g780 : Int) (g891 : Bool) : Option (Fl (Int) (Fl (Unit) Bool)) := cond g891 (some (.out (.out false))) (some (.go (IntKind.i64.wrap (g780 + 1))))
noncomputable def law29_GroupAlone_l4 (u403 : ((List RecordD) × DiceD)) (u406 : Int) (g780 : Int) : Option (Fl (Int) (Fl (Unit) Bool)) := cond (decide ((g780 : Int) < (u403.1.length : Int))) ((getI u403.1 g780).bind fun e846 => (group_Of u403.1 u406 e846.Key).bind fun u858 => cond ((e846.Key.Kind : Int) != 32) ((ref23_SameList u858 ([e846.Key])).bind fun u896 => law29_GroupAlone_j3 g780 (!(u896))) (cond (decide ((u406 : Int) ≤ e846.Verified)) ((ref23_SameList u858 ([e846.Key])).bind fun u901 => law29_GroupAlone_j3 g780 (!(u901))) (cond e846.Dirty ((ref23_SameList u858 ([e846.Key])).bind fun u906 => law29_GroupAlone_j3 g780 (!(u906))) (law29_GroupAlone_j3 g780 false)))) (some (.out (.go ())))
noncomputable def law29_GroupAlone (t_0 : (List Int)) (revision_ : Int) : Option Bool := (mill_Light t_0).bind fun u395 => cond (!(u395)) ((law29_awake).bind fun u398 => some (u398)) ((mill_Roll t_0).bind fun u400 => (law29_records u400).bind fun u403 => (mill_Mod revision_ 4).bind fun u406 => (loop (fun s : Int => law29_GroupAlone_l4 u403 u406 s) 0).bind fun r => Fl.el r (fun s => law29_GroupAlone_j2 u403 u406) (fun y => some (y)))
set_option maxRecDepth 100000 in
set_option maxHeartbeats 4000000 in
theorem law29_GroupAlone_c (T : Nat → Prop) (W0 : World) (hT : ∀ k, T k → k < W0.heap.size) (hLv : LvP T W0) (t_0 : (List Int)) (revision_ : Int) (v1 : Value) (hv1 : SlR (Rep.int .i64) T W0 v1 t_0) (y : Bool) (hM : law29_GroupAlone t_0 revision_ = some y) : Rets Tryd.prog No 6 [v1, .int .i64 revision_] W0 (fun v w' => v = .bool y) := by
  refine enter (c := _) Tryd.func6 rfl T 104 Tryd.ntmps6 hT rfl fun a hS => ?_
  replace hS := hS.fact LvF (LvP.dn hLv)
  replace hS := hS.fact (SlF (Rep.int .i64) v1 t_0) (SlR.dn hv1)
  unfold law29_GroupAlone at hM
  refine wp_seq_k fun K32 hK32 => ?_
  refine r_list ?_
  refine wl rfl (ky (v := .bool false) hS (y_assign hS rfl) rfl rfl fun a hS => ?_)
  refine wpList_nil ?_
  try simp only [Exit.then, Exit.inBlock, ↓reduceIte, Nat.reduceEqDiff]
  refine hK32 _ _ ?_
  refine wp_seq_k fun K33 hK33 => ?_
  refine wp_seq_k fun K34 hK34 => ?_
  refine r_list ?_
  refine wl rfl (ky (v := v1) hS (y_move hS rfl) rfl rfl fun a hS => ?_)
  obtain ⟨u395, hu395, hM⟩ := bd hM
  refine wl rfl (k_call hS ci7 rfl rfl (mill_Light_c _ _ hS.dlt t_0 _ (hS.get 0 rfl) _ hu395) fun _ w hR a hk hA => ?_)
  have he := Eq.symm hR
  subst he
  have hS := hA [] (fun r hr => by cases hr) List.Pairwise.nil
  refine wl rfl (ky (v := .bool (!(u395))) hS (y_not hS rfl) rfl rfl fun a hS => ?_)
  refine wpList_nil ?_
  try simp only [Exit.then, Exit.inBlock, ↓reduceIte, Nat.reduceEqDiff]
  refine hK34 _ _ ?_
  rcases bool2 (!(u395)) with hb397 | hb397
  · replace hM := ct hb397 hM
    refine c_t hS rfl hb397 ?_
    refine wp_seq_k fun K35 hK35 => ?_
    refine r_list ?_
    obtain ⟨u398, hu398, hM⟩ := bd hM
    refine wl rfl (k_call hS ci8 rfl rfl (law29_awake_c _ _ hS.dlt (hS.get 1 rfl) _ hu398) fun _ w hR a hk hA => ?_)
    have he := Eq.symm hR
    subst he
    have hS := hA [] (fun r hr => by cases hr) List.Pairwise.nil
    refine wl rfl (ky (v := .bool u398) hS (y_assign hS rfl) rfl rfl fun a hS => ?_)
    refine wpList_nil ?_
    try simp only [Exit.then, Exit.inBlock, ↓reduceIte, Nat.reduceEqDiff]
    refine hK35 _ _ ?_
    refine wp_ret ?_
    injection hM with hM
    subst hM
    try simp only [Exit.then, Exit.inBlock, ↓reduceIte, Nat.reduceEqDiff]
    refine ret_ok hS Tryd.results6 (res_tmp hS rfl res_nil) ?_
    exact rfl
  · replace hM := cf hb397 hM
    refine c_f hS rfl hb397 ?_
    refine wp_skip ?_
    try simp only [Exit.then, Exit.inBlock, ↓reduceIte, Nat.reduceEqDiff]
    refine hK33 _ _ ?_
    refine wp_seq_k fun K36 hK36 => ?_
    refine r_list ?_
    refine wl rfl (ky (v := v1) hS (y_move hS rfl) rfl rfl fun a hS => ?_)
    obtain ⟨u400, hu400, hM⟩ := bd hM
    refine wl rfl (k_call hS ci9 rfl rfl (mill_Roll_c _ _ hS.dlt t_0 _ (hS.get 0 rfl) _ hu400) fun _ w hR a hk hA => ?_)
    obtain ⟨bz401_2, vz401_3, he, hFbz401_2, hObz401_2, hRvz401_3⟩ := hR
    replace he := he.symm
    subst he
    have hS := hA [.box bz401_2 [vz401_3, .int .i64 u400.At] 52] (adds1 hObz401_2 (fun k hk => by simp only [Res.dom, Option.some.injEq] at hk; omega)) (pw1 _)
    replace hS := hS.fact (SlF (Rep.int .i64) vz401_3 u400.L) (hRvz401_3.sub (dT_dT _))
    obtain ⟨u403, hu403, hM⟩ := bd hM
    refine wl rfl (k_callmr hS ci10 rfl rfl 0 rfl (law29_records_c _ _ (hS.drop 0).dlt u400 _ _ (hS.boxRow 0 rfl) (hS.notin 0 rfl) (SlR.lent (i := 0) rfl (hS.get 0 rfl)) (LvF.keep (hS.get 2 rfl) (Kt.refl _ _) (fun k hk => .inl ((dT_in (i := 0) rfl k).1 hk))) _ hu403) fun _ w hR hk => ?_)
    obtain ⟨vz404_3, clz404_4, vz404_5, he, ⟨hOvz404_3, hFvz404_3, hRvz404_3⟩, hrow, hRvz404_5⟩ := hR
    replace he := he.symm
    subst he
    refine ⟨[vz404_5, .int .i64 u403.2.At], [.own vz404_3 34 R_RecordD.size clz404_4], hrow, adds1 ⟨hOvz404_3, by decide⟩ hFvz404_3, pw1 _, fun a hS => ?_⟩
    replace hS := hS.fact (RowsF R_RecordD clz404_4 u403.1) (hRvz404_3.keep (Kt.refl _ _) (Nw.back2 (i := 0) rfl [.own vz404_3 34 R_RecordD.size clz404_4] _))
    replace hS := hS.fact (SlF (Rep.int .i64) vz404_5 u403.2.L) (hRvz404_5.sub (Nw.back2 (i := 0) rfl [.own vz404_3 34 R_RecordD.size clz404_4] _))
    refine wl rfl (ky (v := vz404_3) hS (y_assign hS rfl) rfl rfl fun a hS => ?_)
    refine wpList_nil ?_
    try simp only [Exit.then, Exit.inBlock, ↓reduceIte, Nat.reduceEqDiff]
    refine hK36 _ _ ?_
    refine wp_seq_k fun K37 hK37 => ?_
    refine r_list ?_
    refine wl rfl (ky (v := .int .i64 revision_) hS (y_move hS rfl) rfl rfl fun a hS => ?_)
    obtain ⟨u406, hu406, hM⟩ := bd hM
    refine wl rfl (k_call hS ci11 rfl rfl (mill_Mod_c _ _ hS.dlt revision_ 4 _ hu406) fun _ w hR a hk hA => ?_)
    have he := Eq.symm hR
    subst he
    have hS := hA [] (fun r hr => by cases hr) List.Pairwise.nil
    refine wl rfl (ky (v := .int .i64 u406) hS (y_assign hS rfl) rfl rfl fun a hS => ?_)
    refine wpList_nil ?_
    try simp only [Exit.then, Exit.inBlock, ↓reduceIte, Nat.reduceEqDiff]
    refine hK37 _ _ ?_
    refine seq_j (J := fun a w => St W0 No T 104 [(5, vz404_3), (6, .int .i64 u406)] [.own vz404_3 34 R_RecordD.size clz404_4] [RowsF R_RecordD clz404_4 u403.1, LvF] a w ∧ law29_GroupAlone_j2 u403 u406 = some y) ?_ ?_
    · skip
      refine wp_seq_k fun K56 hK56 => ?_
      refine r_list ?_
      refine wl rfl (ky (v := vz404_3) hS (y_move hS rfl) rfl rfl fun a hS => ?_)
      refine wl rfl (ky (v := .int .i64 (u403.1.length : Int)) hS (y_leno (R := R_RecordD) (xs := u403.1) hS sl28 rfl 0 rfl 1 rfl) rfl rfl fun a hS => ?_)
      refine wl rfl (ky (v := .int .i64 0) hS (y_move hS rfl) rfl rfl fun a hS => ?_)
      refine wpList_nil ?_
      try simp only [Exit.then, Exit.inBlock, ↓reduceIte, Nat.reduceEqDiff]
      refine hK56 _ _ ?_
      refine wp_block ?_
      obtain ⟨r1, hl1, hMo1⟩ := bd hM
      refine wp_lp (fun s : Int => law29_GroupAlone_l4 u403 u406 s) (fun s a w => ∃ (g780 : Int), g780 = s ∧ St W0 No T 104 [(5, vz404_3), (6, .int .i64 u406), (23, vz404_3), (24, .int .i64 (u403.1.length : Int)), (25, .int .i64 g780)] [.own vz404_3 34 R_RecordD.size clz404_4] [RowsF R_RecordD clz404_4 u403.1, LvF] a w) hl1 ⟨0, rfl, (hS.meet [0] (by decide) ⟨rfl, rfl, rfl, rfl, rfl, trivial⟩ ⟨rfl, trivial⟩ ⟨⟨1, rfl⟩, ⟨4, rfl⟩, trivial⟩)⟩ ?_
      rintro s a w f1 ⟨g780, rfl, hS⟩ hM hf1
      have hM : law29_GroupAlone_l4 u403 u406 g780 = some f1 := hM
      unfold law29_GroupAlone_l4 at hM
      refine wp_seq_k fun K69 hK69 => ?_
      refine r_list ?_
      refine wl rfl (ky (v := .bool (decide ((g780 : Int) < (u403.1.length : Int)))) hS (y_int hS rfl rfl rfl) rfl rfl fun a hS => ?_)
      refine wpList_nil ?_
      try simp only [Exit.then, Exit.inBlock, ↓reduceIte, Nat.reduceEqDiff]
      refine hK69 _ _ ?_
      refine wp_seq_k fun K70 hK70 => ?_
      rcases bool2 (decide ((g780 : Int) < (u403.1.length : Int))) with hb845 | hb845
      · replace hM := ct hb845 hM
        refine c_t hS rfl hb845 ?_
        refine wp_skip ?_
        try simp only [Exit.then, Exit.inBlock, ↓reduceIte, Nat.reduceEqDiff]
        refine hK70 _ _ ?_
        refine wp_seq_k fun K71 hK71 => ?_
        refine wp_block ?_
        refine wp_seq_k fun K72 hK72 => ?_
        refine r_list ?_
        obtain ⟨e846, he846, hM⟩ := bd hM
        refine wl rfl (k_indexo (R := R_RecordD) hS sl28 ty34 rfl rfl 0 rfl 0 rfl he846 rfl fun b848 o849 p854 cs851 hr850 hO852 hC853 a hS => ?_)
        obtain ⟨v847, rfl, hv847⟩ := hr850
        replace hS := hS.fact (SlF R_KeyD v847 e846.Reads) hv847
        refine wl rfl (ky (v := .agg #[.int .i64 e846.Key.Kind, .string e846.Key.Text, .string e846.Value, v847, .int .i64 e846.Changed, .int .i64 e846.Verified, .int .i64 e846.Cost, .bool e846.Dirty]) hS (y_loado (k := 0) hS ty34 0 rfl hO852 hC853 rfl id (us := [.int .i64 e846.Key.Kind, .string e846.Key.Text, .string e846.Value, v847, .int .i64 e846.Changed, .int .i64 e846.Verified, .int .i64 e846.Cost, .bool e846.Dirty]) rfl rfl (fun h => by cases h)) rfl rfl fun a hS => ?_)
        refine wl rfl (k_alloc hS ze34 rfl fun b855 hnb857 a w hk hS => ?_)
        refine wl rfl (k_store hS rfl rfl (us := [.int .i64 e846.Key.Kind, .string e846.Key.Text, .string e846.Value, v847, .int .i64 e846.Changed, .int .i64 e846.Verified, .int .i64 e846.Cost, .bool e846.Dirty]) rfl ty34 0 rfl rfl rfl (oc rfl (oc rfl (oc rfl (oc (SlR.one ((hS.get 0 rfl) : SlR R_KeyD _ _ _ _)) (oc rfl (oc rfl (oc rfl (oc rfl on)))))))) fun w hk hS => ?_)
        refine wpList_nil ?_
        try simp only [Exit.then, Exit.inBlock, ↓reduceIte, Nat.reduceEqDiff]
        refine hK72 _ _ ?_
        refine wp_seq_k fun K73 hK73 => ?_
        refine r_list ?_
        refine wl rfl (ky (v := vz404_3) hS (y_move hS rfl) rfl rfl fun a hS => ?_)
        refine wl rfl (ky (v := .int .i64 u406) hS (y_move hS rfl) rfl rfl fun a hS => ?_)
        refine wl rfl (ky (v := .pointer (some ⟨b855, 0 + 0, none⟩)) hS (y_fld hS rfl fl34_0) rfl rfl fun a hS => ?_)
        refine wl rfl (ky (v := .agg #[.int .i64 e846.Key.Kind, .string e846.Key.Text]) hS (y_load hS rfl ty32 0 rfl id (us := [.int .i64 e846.Key.Kind, .string e846.Key.Text]) rfl rfl (fun h => by cases h)) rfl rfl fun a hS => ?_)
        have hL := hS
        replace hL := hL.freeze (R := R_RecordD) 1 rfl 1 rfl
        obtain ⟨u858, hu858, hM⟩ := bd hM
        refine wl rfl (k_call hS ci13 rfl rfl (group_Of_c _ _ hL.dlt (hL.get 3 rfl) u403.1 u406 e846.Key _ (hL.get 0 rfl) _ hu858) fun _ w hR a hk hA => ?_)
        obtain ⟨vz859_2, clz859_3, he, ⟨hOvz859_2, hFvz859_2, hRvz859_2⟩⟩ := hR
        replace he := he.symm
        subst he
        have hS := hA [.own vz859_2 32 R_KeyD.size clz859_3] (adds1 ⟨hOvz859_2, by decide⟩ hFvz859_2) (pw1 _)
        replace hS := hS.fact (RowsF R_KeyD clz859_3 u858) hRvz859_2
        refine wl rfl (ky (v := vz859_2) hS (y_assign hS rfl) rfl rfl fun a hS => ?_)
        refine wpList_nil ?_
        try simp only [Exit.then, Exit.inBlock, ↓reduceIte, Nat.reduceEqDiff]
        refine hK73 _ _ ?_
        refine seq_j (J := fun a w => ∃ (g891 : Bool), St W0 No T 104 [(5, vz404_3), (6, .int .i64 u406), (23, vz404_3), (24, .int .i64 (u403.1.length : Int)), (25, .int .i64 g780), (55, .bool g891)] [.own vz404_3 34 R_RecordD.size clz404_4] [RowsF R_RecordD clz404_4 u403.1, LvF] a w ∧ law29_GroupAlone_j3 g780 g891 = some f1) ?_ ?_
        · skip
          refine r_list ?_
          refine wl rfl (ky (v := .pointer (some ⟨b855, 0 + 0, none⟩)) hS (y_fld hS rfl fl34_0) rfl rfl fun a hS => ?_)
          refine wl rfl (ky (v := .pointer (some ⟨b855, 0 + 0 + 0, none⟩)) hS (y_fld hS rfl fl32_0) rfl rfl fun a hS => ?_)
          refine wl rfl (ky (v := .int .i64 e846.Key.Kind) hS (y_load hS rfl ty3 1 rfl id (us := [.int .i64 e846.Key.Kind]) rfl rfl (fun _ => rfl)) rfl rfl fun a hS => ?_)
          refine wl rfl (ky (v := .bool ((e846.Key.Kind : Int) != 32)) hS (y_int hS rfl rfl rfl) rfl rfl fun a hS => ?_)
          refine wl rfl (ky (v := .bool ((e846.Key.Kind : Int) != 32)) hS (y_move hS rfl) rfl rfl fun a hS => ?_)
          rcases bool2 ((e846.Key.Kind : Int) != 32) with hb893 | hb893
          · replace hM := ct hb893 hM
            refine wn hS rfl rfl rfl hb893 rfl rfl fun a hS => ?_
            refine wn hS rfl rfl rfl hb893 rfl rfl fun a hS => ?_
            refine wn hS rfl rfl rfl hb893 rfl rfl fun a hS => ?_
            refine wn hS rfl rfl rfl hb893 rfl rfl fun a hS => ?_
            refine wl rfl (ky (v := .bool true) hS (y_pickt hS rfl hb893 rfl) rfl rfl fun a hS => ?_)
            refine wl rfl (ky (v := .bool true) hS (y_move hS rfl) rfl rfl fun a hS => ?_)
            refine wn hS rfl rfl rfl rfl rfl rfl fun a hS => ?_
            refine wn hS rfl rfl rfl rfl rfl rfl fun a hS => ?_
            refine wl rfl (ky (v := .bool true) hS (y_pickt hS rfl rfl rfl) rfl rfl fun a hS => ?_)
            refine wl rfl (ky (v := .bool true) hS (y_move hS rfl) rfl rfl fun a hS => ?_)
            refine wg hS rfl rfl rfl rfl (ky (v := vz859_2) hS (y_move hS rfl) rfl rfl fun a hS => ?_)
            refine wg hS rfl rfl rfl rfl (ky (v := .pointer (some ⟨b855, 0 + 0, none⟩)) hS (y_fld hS rfl fl34_0) rfl rfl fun a hS => ?_)
            refine wg hS rfl rfl rfl rfl (ky (v := .agg #[.int .i64 e846.Key.Kind, .string e846.Key.Text]) hS (y_load hS rfl ty32 1 rfl id (us := [.int .i64 e846.Key.Kind, .string e846.Key.Text]) rfl rfl (fun h => by cases h)) rfl rfl fun a hS => ?_)
            refine wg hS rfl rfl rfl rfl (k_bslice (ps := [(0, .tmp 51)]) hS el23 ze32 (zl := [.int .i64 0, .string (ByteArray.mk #[])]) (by kernel_rfl) rfl (us := [[.int .i64 e846.Key.Kind, .string e846.Key.Text]]) ⟨rfl, trivial⟩ (ws := [.int .i64 e846.Key.Kind, .string e846.Key.Text]) rfl rfl rfl rfl fun b894 a w hk hS => ?_)
            replace hS := hS.lit (R := R_KeyD) (us := [.int .i64 e846.Key.Kind, .string e846.Key.Text]) (xs := [e846.Key]) 0 rfl (by decide) (RowsOk.one_ (R := R_KeyD) (x := e846.Key) rfl) rfl rfl
            have hL := hS
            replace hL := hL.freeze (R := R_KeyD) 1 rfl 1 rfl
            replace hL := hL.freeze (R := R_KeyD) 0 rfl 1 rfl
            obtain ⟨u896, hu896, hM⟩ := bd hM
            refine wg hS rfl rfl rfl rfl (k_call hS ci15 rfl rfl (ref23_SameList_c _ _ hL.dlt u858 ([e846.Key]) _ _ (hL.get 1 rfl) (hL.get 0 rfl) _ hu896) fun _ w hR a hk hA => ?_)
            have he := Eq.symm hR
            subst he
            have hS := hA [] (fun r hr => by cases hr) List.Pairwise.nil
            refine wg hS rfl rfl rfl rfl (ky (v := .bool (!(u896))) hS (y_not hS rfl) rfl rfl fun a hS => ?_)
            refine wl rfl (ky (v := .bool (!(u896))) hS (y_pickt hS rfl rfl rfl) rfl rfl fun a hS => ?_)
            refine wpList_nil ?_
            try simp only [Exit.then, Exit.inBlock, ↓reduceIte, Nat.reduceEqDiff]
            exact ⟨(!(u896)), (hS.meet [3] (by decide) ⟨rfl, rfl, rfl, rfl, rfl, rfl, trivial⟩ ⟨rfl, trivial⟩ ⟨⟨3, rfl⟩, ⟨4, rfl⟩, trivial⟩), hM⟩
          · replace hM := cf hb893 hM
            refine wg hS rfl rfl rfl hb893 (ky (v := .pointer (some ⟨b855, 0 + 5, none⟩)) hS (y_fld hS rfl fl34_4) rfl rfl fun a hS => ?_)
            refine wg hS rfl rfl rfl hb893 (ky (v := .int .i64 e846.Verified) hS (y_load hS rfl ty3 1 rfl id (us := [.int .i64 e846.Verified]) rfl rfl (fun _ => rfl)) rfl rfl fun a hS => ?_)
            refine wg hS rfl rfl rfl hb893 (ky (v := .int .i64 u406) hS (y_move hS rfl) rfl rfl fun a hS => ?_)
            refine wg hS rfl rfl rfl hb893 (ky (v := .bool (decide ((u406 : Int) ≤ e846.Verified))) hS (y_int hS rfl rfl rfl) rfl rfl fun a hS => ?_)
            refine wl rfl (ky (v := .bool (decide ((u406 : Int) ≤ e846.Verified))) hS (y_pickf hS rfl hb893 rfl) rfl rfl fun a hS => ?_)
            refine wl rfl (ky (v := .bool (decide ((u406 : Int) ≤ e846.Verified))) hS (y_move hS rfl) rfl rfl fun a hS => ?_)
            rcases bool2 (decide ((u406 : Int) ≤ e846.Verified)) with hb898 | hb898
            · replace hM := ct hb898 hM
              refine wn hS rfl rfl rfl hb898 rfl rfl fun a hS => ?_
              refine wn hS rfl rfl rfl hb898 rfl rfl fun a hS => ?_
              refine wl rfl (ky (v := .bool true) hS (y_pickt hS rfl hb898 rfl) rfl rfl fun a hS => ?_)
              refine wl rfl (ky (v := .bool true) hS (y_move hS rfl) rfl rfl fun a hS => ?_)
              refine wg hS rfl rfl rfl rfl (ky (v := vz859_2) hS (y_move hS rfl) rfl rfl fun a hS => ?_)
              refine wg hS rfl rfl rfl rfl (ky (v := .pointer (some ⟨b855, 0 + 0, none⟩)) hS (y_fld hS rfl fl34_0) rfl rfl fun a hS => ?_)
              refine wg hS rfl rfl rfl rfl (ky (v := .agg #[.int .i64 e846.Key.Kind, .string e846.Key.Text]) hS (y_load hS rfl ty32 1 rfl id (us := [.int .i64 e846.Key.Kind, .string e846.Key.Text]) rfl rfl (fun h => by cases h)) rfl rfl fun a hS => ?_)
              refine wg hS rfl rfl rfl rfl (k_bslice (ps := [(0, .tmp 51)]) hS el23 ze32 (zl := [.int .i64 0, .string (ByteArray.mk #[])]) (by kernel_rfl) rfl (us := [[.int .i64 e846.Key.Kind, .string e846.Key.Text]]) ⟨rfl, trivial⟩ (ws := [.int .i64 e846.Key.Kind, .string e846.Key.Text]) rfl rfl rfl rfl fun b899 a w hk hS => ?_)
              replace hS := hS.lit (R := R_KeyD) (us := [.int .i64 e846.Key.Kind, .string e846.Key.Text]) (xs := [e846.Key]) 0 rfl (by decide) (RowsOk.one_ (R := R_KeyD) (x := e846.Key) rfl) rfl rfl
              have hL := hS
              replace hL := hL.freeze (R := R_KeyD) 1 rfl 1 rfl
              replace hL := hL.freeze (R := R_KeyD) 0 rfl 1 rfl
              obtain ⟨u901, hu901, hM⟩ := bd hM
              refine wg hS rfl rfl rfl rfl (k_call hS ci15 rfl rfl (ref23_SameList_c _ _ hL.dlt u858 ([e846.Key]) _ _ (hL.get 1 rfl) (hL.get 0 rfl) _ hu901) fun _ w hR a hk hA => ?_)
              have he := Eq.symm hR
              subst he
              have hS := hA [] (fun r hr => by cases hr) List.Pairwise.nil
              refine wg hS rfl rfl rfl rfl (ky (v := .bool (!(u901))) hS (y_not hS rfl) rfl rfl fun a hS => ?_)
              refine wl rfl (ky (v := .bool (!(u901))) hS (y_pickt hS rfl rfl rfl) rfl rfl fun a hS => ?_)
              refine wpList_nil ?_
              try simp only [Exit.then, Exit.inBlock, ↓reduceIte, Nat.reduceEqDiff]
              exact ⟨(!(u901)), (hS.meet [3] (by decide) ⟨rfl, rfl, rfl, rfl, rfl, rfl, trivial⟩ ⟨rfl, trivial⟩ ⟨⟨3, rfl⟩, ⟨4, rfl⟩, trivial⟩), hM⟩
            · replace hM := cf hb898 hM
              refine wg hS rfl rfl rfl hb898 (ky (v := .pointer (some ⟨b855, 0 + 7, none⟩)) hS (y_fld hS rfl fl34_6) rfl rfl fun a hS => ?_)
              refine wg hS rfl rfl rfl hb898 (ky (v := .bool e846.Dirty) hS (y_load hS rfl ty4 1 rfl id (us := [.bool e846.Dirty]) rfl rfl (fun _ => rfl)) rfl rfl fun a hS => ?_)
              refine wl rfl (ky (v := .bool e846.Dirty) hS (y_pickf hS rfl hb898 rfl) rfl rfl fun a hS => ?_)
              refine wl rfl (ky (v := .bool e846.Dirty) hS (y_move hS rfl) rfl rfl fun a hS => ?_)
              rcases bool2 (e846.Dirty) with hb903 | hb903
              · replace hM := ct hb903 hM
                refine wg hS rfl rfl rfl hb903 (ky (v := vz859_2) hS (y_move hS rfl) rfl rfl fun a hS => ?_)
                refine wg hS rfl rfl rfl hb903 (ky (v := .pointer (some ⟨b855, 0 + 0, none⟩)) hS (y_fld hS rfl fl34_0) rfl rfl fun a hS => ?_)
                refine wg hS rfl rfl rfl hb903 (ky (v := .agg #[.int .i64 e846.Key.Kind, .string e846.Key.Text]) hS (y_load hS rfl ty32 1 rfl id (us := [.int .i64 e846.Key.Kind, .string e846.Key.Text]) rfl rfl (fun h => by cases h)) rfl rfl fun a hS => ?_)
                refine wg hS rfl rfl rfl hb903 (k_bslice (ps := [(0, .tmp 51)]) hS el23 ze32 (zl := [.int .i64 0, .string (ByteArray.mk #[])]) (by kernel_rfl) rfl (us := [[.int .i64 e846.Key.Kind, .string e846.Key.Text]]) ⟨rfl, trivial⟩ (ws := [.int .i64 e846.Key.Kind, .string e846.Key.Text]) rfl rfl rfl rfl fun b904 a w hk hS => ?_)
                replace hS := hS.lit (R := R_KeyD) (us := [.int .i64 e846.Key.Kind, .string e846.Key.Text]) (xs := [e846.Key]) 0 rfl (by decide) (RowsOk.one_ (R := R_KeyD) (x := e846.Key) rfl) rfl rfl
                have hL := hS
                replace hL := hL.freeze (R := R_KeyD) 1 rfl 1 rfl
                replace hL := hL.freeze (R := R_KeyD) 0 rfl 1 rfl
                obtain ⟨u906, hu906, hM⟩ := bd hM
                refine wg hS rfl rfl rfl hb903 (k_call hS ci15 rfl rfl (ref23_SameList_c _ _ hL.dlt u858 ([e846.Key]) _ _ (hL.get 1 rfl) (hL.get 0 rfl) _ hu906) fun _ w hR a hk hA => ?_)
                have he := Eq.symm hR
                subst he
                have hS := hA [] (fun r hr => by cases hr) List.Pairwise.nil
                refine wg hS rfl rfl rfl hb903 (ky (v := .bool (!(u906))) hS (y_not hS rfl) rfl rfl fun a hS => ?_)
                refine wl rfl (ky (v := .bool (!(u906))) hS (y_pickt hS rfl hb903 rfl) rfl rfl fun a hS => ?_)
                refine wpList_nil ?_
                try simp only [Exit.then, Exit.inBlock, ↓reduceIte, Nat.reduceEqDiff]
                exact ⟨(!(u906)), (hS.meet [3] (by decide) ⟨rfl, rfl, rfl, rfl, rfl, rfl, trivial⟩ ⟨rfl, trivial⟩ ⟨⟨3, rfl⟩, ⟨4, rfl⟩, trivial⟩), hM⟩
              · replace hM := cf hb903 hM
                refine wn hS rfl rfl rfl hb903 rfl rfl fun a hS => ?_
                refine wn hS rfl rfl rfl hb903 rfl rfl fun a hS => ?_
                refine wn hS rfl rfl rfl hb903 rfl rfl fun a hS => ?_
                refine wn hS rfl rfl rfl hb903 rfl rfl fun a hS => ?_
                refine wn hS rfl rfl rfl hb903 rfl rfl fun a hS => ?_
                refine wn hS rfl rfl rfl hb903 rfl rfl fun a hS => ?_
                refine wl rfl (ky (v := .bool false) hS (y_pickf hS rfl hb903 rfl) rfl rfl fun a hS => ?_)
                refine wpList_nil ?_
                try simp only [Exit.then, Exit.inBlock, ↓reduceIte, Nat.reduceEqDiff]
                exact ⟨false, (hS.meet [2] (by decide) ⟨rfl, rfl, rfl, rfl, rfl, rfl, trivial⟩ ⟨rfl, trivial⟩ ⟨⟨2, rfl⟩, ⟨3, rfl⟩, trivial⟩), hM⟩
        · rintro a w ⟨g891, hS, hM⟩
          unfold law29_GroupAlone_j3 at hM
          rcases bool2 (g891) with hb892 | hb892
          · replace hM := ct hb892 hM
            refine c_t hS rfl hb892 ?_
            refine wp_seq_k fun K74 hK74 => ?_
            refine r_list ?_
            refine wl rfl (ky (v := .bool false) hS (y_assign hS rfl) rfl rfl fun a hS => ?_)
            refine wpList_nil ?_
            try simp only [Exit.then, Exit.inBlock, ↓reduceIte, Nat.reduceEqDiff]
            refine hK74 _ _ ?_
            refine wp_ret ?_
            injection hM with hM
            subst hM
            have hr := hf1 _ rfl
            subst hr
            replace hMo1 := el_out hMo1
            have hM := hMo1
            injection hM with hM
            subst hM
            try simp only [Exit.then, Exit.inBlock, ↓reduceIte, Nat.reduceEqDiff]
            refine ret_ok hS Tryd.results6 (res_tmp hS rfl res_nil) ?_
            exact rfl
          · replace hM := cf hb892 hM
            refine c_f hS rfl hb892 ?_
            refine wp_skip ?_
            try simp only [Exit.then, Exit.inBlock, ↓reduceIte, Nat.reduceEqDiff]
            refine hK71 _ _ ?_
            refine r_list ?_
            refine wl rfl (ky (v := .int .i64 (IntKind.i64.wrap (g780 + 1))) hS (y_int hS rfl rfl rfl) rfl rfl fun a hS => ?_)
            refine wl rfl (ky (v := .int .i64 (IntKind.i64.wrap (g780 + 1))) hS (y_move hS rfl) rfl rfl fun a hS => ?_)
            refine wpList_nil ?_
            try simp only [Exit.then, Exit.inBlock, ↓reduceIte, Nat.reduceEqDiff]
            exact ⟨IntKind.i64.wrap (g780 + 1), (Option.some.inj hM).symm, (IntKind.i64.wrap (g780 + 1)), rfl, (hS.meet [0] (by decide) ⟨rfl, rfl, rfl, rfl, rfl, trivial⟩ ⟨rfl, trivial⟩ ⟨⟨0, rfl⟩, ⟨1, rfl⟩, trivial⟩)⟩
      · replace hM := cf hb845 hM
        refine c_f hS rfl hb845 ?_
        refine wp_exit ?_
        try simp only [Exit.then, Exit.inBlock, ↓reduceIte, Nat.reduceEqDiff]
        injection hM with hM
        subst hM
        have hr := hf1 _ rfl
        subst hr
        replace hMo1 := el_go hMo1
        have hM : law29_GroupAlone_j2 u403 u406 = some y := hMo1
        exact ⟨(hS.meet [0] (by decide) ⟨rfl, rfl, trivial⟩ ⟨rfl, trivial⟩ ⟨⟨0, rfl⟩, ⟨1, rfl⟩, trivial⟩), hM⟩
    · rintro a w ⟨hS, hM⟩
      unfold law29_GroupAlone_j2 at hM
      refine wp_seq_k fun K51 hK51 => ?_
      refine r_list ?_
      refine wl rfl (ky (v := .agg #[.int .i64 32, .string (ByteArray.mk #[57])]) hS (y_build (ps := [(0, .const (.int .i64 32)), (1, .const (.string ⟨#[57]⟩))]) hS pl32 ze32 rfl (us := [[.int .i64 32], [.string (ByteArray.mk #[57])]]) ⟨rfl, ⟨rfl, trivial⟩⟩ (ws := [.int .i64 32, .string (ByteArray.mk #[57])]) rfl) rfl rfl fun a hS => ?_)
      refine wl rfl (ky (v := .agg #[.int .i64 32, .string (ByteArray.mk #[57]), .string (ByteArray.mk #[]), .slice none 0 0, .int .i64 0, .int .i64 0, .int .i64 3, .bool false]) hS (y_build (ps := [(0, .tmp 57), (5, .const (.int .i64 3))]) hS pl34 ze34 rfl (us := [[.int .i64 32, .string (ByteArray.mk #[57])], [.int .i64 3]]) ⟨rfl, ⟨rfl, trivial⟩⟩ (ws := [.int .i64 32, .string (ByteArray.mk #[57]), .string (ByteArray.mk #[]), .slice none 0 0, .int .i64 0, .int .i64 0, .int .i64 3, .bool false]) rfl) rfl rfl fun a hS => ?_)
      refine wl rfl (k_alloc hS ze34 rfl fun b537 hnb539 a w hk hS => ?_)
      refine wl rfl (k_store hS rfl rfl (us := [.int .i64 32, .string (ByteArray.mk #[57]), .string (ByteArray.mk #[]), .slice none 0 0, .int .i64 0, .int .i64 0, .int .i64 3, .bool false]) rfl ty34 0 rfl rfl rfl (oc rfl (oc rfl (oc rfl (oc rfl (oc rfl (oc rfl (oc rfl (oc rfl on)))))))) fun w hk hS => ?_)
      refine wpList_nil ?_
      try simp only [Exit.then, Exit.inBlock, ↓reduceIte, Nat.reduceEqDiff]
      refine hK51 _ _ ?_
      refine wp_seq_k fun K52 hK52 => ?_
      refine draws [(5, .blk (some b537))] hS mixed rfl (fun c a d v w h => by cases d <;> exact h) fun w hQ hS => ?_
      refine dy 0 (v := .pointer (some ⟨b537, 0 + 0, none⟩)) rfl (by kernel_rfl) (by kernel_rfl) (by kernel_rfl) rfl hQ hS (y_fld hS rfl fl34_0) rfl rfl rfl fun a hS => ?_
      refine dy (l := []) 1 (v := .agg #[.int .i64 32, .string (ByteArray.mk #[57])]) rfl (by kernel_rfl) (by kernel_rfl) (by kernel_rfl) (by kernel_rfl) hQ hS (y_load hS rfl ty32 0 rfl eo_nil (us := [.int .i64 32, .string (ByteArray.mk #[57])]) rfl rfl (fun h => by cases h)) rfl rfl rfl fun a hS => ?_
      obtain ⟨u552, hu552, hM⟩ := bd hM
      refine wpE_one (i := 2) rfl (by kernel_rfl) rfl (k_call hS ci12 rfl rfl (ref23_Cell_c _ _ hS.dlt (hS.get 1 rfl) 1 _ hu552) fun _ w hR a hk hA => ⟨stN (hk), ?_⟩)
      have he := Eq.symm hR
      subst he
      have hS := hA [] (fun r hr => by cases hr) List.Pairwise.nil
      refine wpE_one (i := 3) rfl (by kernel_rfl) rfl (k_bslice (ps := [(0, .tmp 60), (1, .tmp 61)]) hS el23 ze32 (zl := [.int .i64 0, .string (ByteArray.mk #[]), .int .i64 0, .string (ByteArray.mk #[])]) (by kernel_rfl) rfl (us := [[.int .i64 32, .string (ByteArray.mk #[57])], [.int .i64 u552.Kind, .string u552.Text]]) ⟨rfl, ⟨rfl, trivial⟩⟩ (ws := [.int .i64 32, .string (ByteArray.mk #[57]), .int .i64 u552.Kind, .string u552.Text]) rfl rfl rfl rfl fun b554 a w hk hS => ⟨stN (hk), ?_⟩)
      refine dy 4 (v := .pointer (some ⟨b537, 0 + 3, none⟩)) rfl (by kernel_rfl) (by kernel_rfl) (by kernel_rfl) rfl hQ hS (y_fld hS rfl fl34_2) rfl rfl rfl fun a hS => ?_
      replace hS := hS.lit (R := R_KeyD) (us := [.int .i64 32, .string (ByteArray.mk #[57]), .int .i64 u552.Kind, .string u552.Text]) (xs := [(KeyD.mk 32 (ByteArray.mk #[57])), u552]) 0 rfl (by decide) ((RowsOk.one_ (R := R_KeyD) (x := (KeyD.mk 32 (ByteArray.mk #[57]))) rfl).append (RowsOk.one_ (R := R_KeyD) (x := u552) rfl)) rfl rfl
      refine wpE_one (i := 5) rfl (by kernel_rfl) rfl (k_store hS rfl rfl (us := [(.slice (some ⟨b554, 0, none⟩) 2 2)]) (cells1 (own_one (hS.own _ (List.mem_of_getElem? (i := 0) rfl)).1)) ty23 1 rfl rfl rfl (oc (own_one (hS.own _ (List.mem_of_getElem? (i := 0) rfl)).1) on) fun w hk hS => ⟨stM rfl hk etBox, ?_⟩)
      refine wpE_done (by kernel_rfl) ?_ _
      try simp only [Exit.then, Exit.inBlock, ↓reduceIte, Nat.reduceEqDiff]
      refine hK52 _ _ ?_
      refine wp_seq_k fun K53 hK53 => ?_
      refine r_list ?_
      refine wl rfl (ky (v := vz404_3) hS (y_move hS rfl) rfl rfl fun a hS => ?_)
      refine wl rfl (ky (v := .agg #[.int .i64 32, .string (ByteArray.mk #[57]), .string (ByteArray.mk #[]), (.slice (some ⟨b554, 0, none⟩) 2 2), .int .i64 0, .int .i64 0, .int .i64 3, .bool false]) hS (y_load hS rfl ty34 1 rfl id (us := [.int .i64 32, .string (ByteArray.mk #[57]), .string (ByteArray.mk #[]), (.slice (some ⟨b554, 0, none⟩) 2 2), .int .i64 0, .int .i64 0, .int .i64 3, .bool false]) rfl rfl (fun h => by cases h)) rfl rfl fun a hS => ?_)
      replace hS := hS.freeze (R := R_RecordD) 2 rfl 1 rfl
      replace hS := hS.freeze (R := R_KeyD) 0 rfl 1 rfl
      obtain ⟨u556, hu556, hM⟩ := bd hM
      refine wl rfl (k_call hS ci21 rfl rfl (ref26_Put_c _ _ hS.dlt (hS.get 4 rfl) u403.1 (RecordD.mk (KeyD.mk 32 (ByteArray.mk #[57])) (ByteArray.mk #[]) ([(KeyD.mk 32 (ByteArray.mk #[57])), u552]) 0 0 3 false) _ _ (hS.get 1 rfl) (hS.get 0 rfl) _ hu556) fun _ w hR a hk hA => ?_)
      obtain ⟨vz557_3, clz557_4, he, ⟨hOvz557_3, hFvz557_3, hRvz557_3⟩⟩ := hR
      replace he := he.symm
      subst he
      have hS := hA [.own vz557_3 34 R_RecordD.size clz557_4] (adds1 ⟨hOvz557_3, by decide⟩ hFvz557_3) (pw1 _)
      replace hS := hS.fact (RowsF R_RecordD clz557_4 u556) (hRvz557_3.keep (Kt.refl _ _) (dT_dT _))
      refine wl rfl (ky (v := vz557_3) hS (y_assign hS rfl) rfl rfl fun a hS => ?_)
      refine wpList_nil ?_
      try simp only [Exit.then, Exit.inBlock, ↓reduceIte, Nat.reduceEqDiff]
      refine hK53 _ _ ?_
      refine wp_seq_k fun K54 hK54 => ?_
      refine r_list ?_
      refine wl rfl (ky (v := vz557_3) hS (y_move hS rfl) rfl rfl fun a hS => ?_)
      refine wl rfl (ky (v := .pointer (some ⟨b537, 0 + 0, none⟩)) hS (y_fld hS rfl fl34_0) rfl rfl fun a hS => ?_)
      refine wl rfl (ky (v := .agg #[.int .i64 32, .string (ByteArray.mk #[57])]) hS (y_load hS rfl ty32 1 rfl id (us := [.int .i64 32, .string (ByteArray.mk #[57])]) rfl rfl (fun h => by cases h)) rfl rfl fun a hS => ?_)
      have hL := hS
      replace hL := hL.freeze (R := R_RecordD) 0 rfl 0 rfl
      obtain ⟨u559, hu559, hM⟩ := bd hM
      refine wl rfl (k_call hS ci13 rfl rfl (group_Of_c _ _ hL.dlt (hL.get 6 rfl) u556 3 (KeyD.mk 32 (ByteArray.mk #[57])) _ (hL.get 0 rfl) _ hu559) fun _ w hR a hk hA => ?_)
      obtain ⟨vz560_2, clz560_3, he, ⟨hOvz560_2, hFvz560_2, hRvz560_2⟩⟩ := hR
      replace he := he.symm
      subst he
      have hS := hA [.own vz560_2 32 R_KeyD.size clz560_3] (adds1 ⟨hOvz560_2, by decide⟩ hFvz560_2) (pw1 _)
      replace hS := hS.fact (RowsF R_KeyD clz560_3 u559) hRvz560_2
      refine wl rfl (ky (v := vz560_2) hS (y_assign hS rfl) rfl rfl fun a hS => ?_)
      refine wpList_nil ?_
      try simp only [Exit.then, Exit.inBlock, ↓reduceIte, Nat.reduceEqDiff]
      refine hK54 _ _ ?_
      refine wp_seq_k fun K55 hK55 => ?_
      refine r_list ?_
      refine wl rfl (ky (v := .agg #[.int .i64 32, .string (ByteArray.mk #[56, 56])]) hS (y_build (ps := [(0, .const (.int .i64 32)), (1, .const (.string ⟨#[56, 56]⟩))]) hS pl32 ze32 rfl (us := [[.int .i64 32], [.string (ByteArray.mk #[56, 56])]]) ⟨rfl, ⟨rfl, trivial⟩⟩ (ws := [.int .i64 32, .string (ByteArray.mk #[56, 56])]) rfl) rfl rfl fun a hS => ?_)
      refine wl rfl (k_alloc hS ze32 rfl fun b562 hnb564 a w hk hS => ?_)
      refine wl rfl (k_store hS rfl rfl (us := [.int .i64 32, .string (ByteArray.mk #[56, 56])]) rfl ty32 0 rfl rfl rfl (oc rfl (oc rfl on)) fun w hk hS => ?_)
      refine wpList_nil ?_
      try simp only [Exit.then, Exit.inBlock, ↓reduceIte, Nat.reduceEqDiff]
      refine hK55 _ _ ?_
      refine seq_j (J := fun a w => ∃ (g665 : Bool), St W0 No T 104 [(4, .bool g665)] [] [LvF] a w ∧ law29_GroupAlone_j1 g665 = some y) ?_ ?_
      · skip
        refine draws [] hS mixed rfl (fun c a d v w h => by cases d <;> exact h) fun w hQ hS => ?_
        refine dy 0 (v := vz560_2) rfl (by kernel_rfl) (by kernel_rfl) (by kernel_rfl) rfl hQ hS (y_move hS rfl) rfl rfl rfl fun a hS => ?_
        refine dy 1 (v := .pointer (some ⟨b537, 0 + 0, none⟩)) rfl (by kernel_rfl) (by kernel_rfl) (by kernel_rfl) rfl hQ hS (y_fld hS rfl fl34_0) rfl rfl rfl fun a hS => ?_
        refine dy (l := []) 2 (v := .agg #[.int .i64 32, .string (ByteArray.mk #[57])]) rfl (by kernel_rfl) (by kernel_rfl) (by kernel_rfl) (by kernel_rfl) hQ hS (y_load hS rfl ty32 3 rfl eo_nil (us := [.int .i64 32, .string (ByteArray.mk #[57])]) rfl rfl (fun h => by cases h)) rfl rfl rfl fun a hS => ?_
        refine wpE_one (i := 3) rfl (by kernel_rfl) rfl (k_bslice (ps := [(0, .tmp 74)]) hS el23 ze32 (zl := [.int .i64 0, .string (ByteArray.mk #[])]) (by kernel_rfl) rfl (us := [[.int .i64 32, .string (ByteArray.mk #[57])]]) ⟨rfl, trivial⟩ (ws := [.int .i64 32, .string (ByteArray.mk #[57])]) rfl rfl rfl rfl fun b691 a w hk hS => ⟨stN (hk), ?_⟩)
        replace hS := hS.lit (R := R_KeyD) (us := [.int .i64 32, .string (ByteArray.mk #[57])]) (xs := [(KeyD.mk 32 (ByteArray.mk #[57]))]) 0 rfl (by decide) (RowsOk.one_ (R := R_KeyD) (x := (KeyD.mk 32 (ByteArray.mk #[57]))) rfl) rfl rfl
        have hL := hS
        replace hL := hL.freeze (R := R_KeyD) 2 rfl 1 rfl
        replace hL := hL.freeze (R := R_KeyD) 0 rfl 1 rfl
        obtain ⟨u693, hu693, hM⟩ := bd hM
        refine wpE_one (i := 4) rfl (by kernel_rfl) rfl (k_call hS ci15 rfl rfl (ref23_SameList_c _ _ hL.dlt u559 ([(KeyD.mk 32 (ByteArray.mk #[57]))]) _ _ (hL.get 1 rfl) (hL.get 0 rfl) _ hu693) fun _ w hR a hk hA => ⟨stN (hk), ?_⟩)
        have he := Eq.symm hR
        subst he
        have hS := hA [] (fun r hr => by cases hr) List.Pairwise.nil
        refine dy 5 (v := .bool u693) rfl (by kernel_rfl) (by kernel_rfl) (by kernel_rfl) rfl hQ hS (y_move hS rfl) rfl rfl rfl fun a hS => ?_
        rcases bool2 (u693) with hb695 | hb695
        · replace hM := ct hb695 hM
          refine dyg 6 (v := vz557_3) rfl (by kernel_rfl) (by kernel_rfl) (by kernel_rfl) rfl hQ hS (y_move hS rfl) rfl rfl rfl hb695 rfl rfl fun a hS => ?_
          refine dyg 7 (v := vz560_2) rfl (by kernel_rfl) (by kernel_rfl) (by kernel_rfl) rfl hQ hS (y_move hS rfl) rfl rfl rfl hb695 rfl rfl fun a hS => ?_
          have hL := hS
          replace hL := hL.freeze (R := R_RecordD) 3 rfl 2 rfl
          replace hL := hL.freeze (R := R_KeyD) 2 rfl 2 rfl
          obtain ⟨u696, hu696, hM⟩ := bd hM
          refine wpE_oneg (i := 8) rfl (by kernel_rfl) hS rfl rfl rfl hb695 (k_call hS ci17 rfl rfl (group_Checks_c _ _ hL.dlt (hL.get 9 rfl) u556 u559 _ _ (hL.get 1 rfl) (hL.get 0 rfl) _ hu696) fun _ w hR a hk hA => ⟨stN (hk), ?_⟩)
          obtain ⟨vz697_3, clz697_4, he, ⟨hOvz697_3, hFvz697_3, hRvz697_3⟩⟩ := hR
          replace he := he.symm
          subst he
          have hS := hA [.own vz697_3 44 R_CheckD.size clz697_4] (adds1 ⟨hOvz697_3, by decide⟩ hFvz697_3) (pw1 _)
          replace hS := hS.fact (RowsF R_CheckD clz697_4 u696) hRvz697_3
          refine dyg 9 (v := .int .i64 (u696.length : Int)) rfl (by kernel_rfl) (by kernel_rfl) (by kernel_rfl) rfl hQ hS (y_leno (R := R_CheckD) (xs := u696) hS sl39 rfl 0 rfl 0 rfl) rfl rfl rfl hb695 rfl rfl fun a hS => ?_
          refine dyg 10 (v := .bool (((u696.length : Int) : Int) == 1)) rfl (by kernel_rfl) (by kernel_rfl) (by kernel_rfl) rfl hQ hS (y_int hS rfl rfl rfl) rfl rfl rfl hb695 rfl rfl fun a hS => ?_
          refine dy 11 (v := .bool (((u696.length : Int) : Int) == 1)) rfl (by kernel_rfl) (by kernel_rfl) (by kernel_rfl) rfl hQ hS (y_pickt hS rfl hb695 rfl) rfl rfl rfl fun a hS => ?_
          refine dy 12 (v := .bool (((u696.length : Int) : Int) == 1)) rfl (by kernel_rfl) (by kernel_rfl) (by kernel_rfl) rfl hQ hS (y_move hS rfl) rfl rfl rfl fun a hS => ?_
          rcases bool2 (((u696.length : Int) : Int) == 1) with hb699 | hb699
          · replace hM := ct hb699 hM
            refine dyg 13 (v := vz404_3) rfl (by kernel_rfl) (by kernel_rfl) (by kernel_rfl) rfl hQ hS (y_move hS rfl) rfl rfl rfl hb699 rfl rfl fun a hS => ?_
            refine dyg 14 (v := .int .i64 u406) rfl (by kernel_rfl) (by kernel_rfl) (by kernel_rfl) rfl hQ hS (y_move hS rfl) rfl rfl rfl hb699 rfl rfl fun a hS => ?_
            refine dyg (l := []) 15 (v := .agg #[.int .i64 32, .string (ByteArray.mk #[56, 56])]) rfl (by kernel_rfl) (by kernel_rfl) (by kernel_rfl) (by kernel_rfl) hQ hS (y_load hS rfl ty32 2 rfl eo_nil (us := [.int .i64 32, .string (ByteArray.mk #[56, 56])]) rfl rfl (fun h => by cases h)) rfl rfl rfl hb699 rfl rfl fun a hS => ?_
            refine dyg (l := []) 17 (v := .agg #[.int .i64 32, .string (ByteArray.mk #[56, 56])]) rfl (by kernel_rfl) (by kernel_rfl) (by kernel_rfl) (by kernel_rfl) hQ hS (y_load hS rfl ty32 2 rfl eo_nil (us := [.int .i64 32, .string (ByteArray.mk #[56, 56])]) rfl rfl (fun h => by cases h)) rfl rfl rfl hb699 rfl rfl fun a hS => ?_
            obtain ⟨u700, hu700, hM⟩ := bd hM
            refine wpE_twog (i := 16) (j := 18) rfl rfl (by kernel_rfl) hS (.inr ⟨_, _, _, _, rfl, rfl, rfl, hb699⟩) (.inr ⟨_, _, _, _, rfl, rfl, rfl, hb699⟩) ?_ ?_
            · skip
              skip
              refine id (k_call hS ci13 rfl rfl (group_Of_c _ _ hS.dlt (hS.get 8 rfl) u403.1 u406 (KeyD.mk 32 (ByteArray.mk #[56, 56])) _ (hS.get 5 rfl) _ hu700) fun _ w hR a hk hA => ⟨stN (hk), ?_⟩)
              obtain ⟨vz701_2, clz701_3, he, ⟨hOvz701_2, hFvz701_2, hRvz701_2⟩⟩ := hR
              replace he := he.symm
              subst he
              have hS := hA [.own vz701_2 32 R_KeyD.size clz701_3] (adds1 ⟨hOvz701_2, by decide⟩ hFvz701_2) (pw1 _)
              replace hS := hS.fact (RowsF R_KeyD clz701_3 u700) (hRvz701_2.keep (Kt.refl _ _) (dT_dT _))
              refine wpE_oneg (i := 18) rfl (by kernel_rfl) hS rfl rfl rfl hb699 (k_bslice (ps := [(0, .tmp 89)]) hS el23 ze32 (zl := [.int .i64 0, .string (ByteArray.mk #[])]) (by kernel_rfl) rfl (us := [[.int .i64 32, .string (ByteArray.mk #[56, 56])]]) ⟨rfl, trivial⟩ (ws := [.int .i64 32, .string (ByteArray.mk #[56, 56])]) rfl rfl rfl rfl fun b703 a w hk hS => ⟨stN (hk), ?_⟩)
              replace hS := hS.lit (R := R_KeyD) (us := [.int .i64 32, .string (ByteArray.mk #[56, 56])]) (xs := [(KeyD.mk 32 (ByteArray.mk #[56, 56]))]) 0 rfl (by decide) (RowsOk.one_ (R := R_KeyD) (x := (KeyD.mk 32 (ByteArray.mk #[56, 56]))) rfl) rfl rfl
              have hL := hS
              replace hL := hL.freeze (R := R_KeyD) 1 rfl 1 rfl
              replace hL := hL.freeze (R := R_KeyD) 0 rfl 1 rfl
              obtain ⟨u705, hu705, hM⟩ := bd hM
              refine wpE_oneg (i := 19) rfl (by kernel_rfl) hS rfl rfl rfl hb699 (k_call hS ci15 rfl rfl (ref23_SameList_c _ _ hL.dlt u700 ([(KeyD.mk 32 (ByteArray.mk #[56, 56]))]) _ _ (hL.get 1 rfl) (hL.get 0 rfl) _ hu705) fun _ w hR a hk hA => ⟨stN (hk), ?_⟩)
              have he := Eq.symm hR
              subst he
              have hS := hA [] (fun r hr => by cases hr) List.Pairwise.nil
              refine dy 20 (v := .bool u705) rfl (by kernel_rfl) (by kernel_rfl) (by kernel_rfl) rfl hQ hS (y_pickt hS rfl hb699 rfl) rfl rfl rfl fun a hS => ?_
              refine dy 21 (v := .bool u705) rfl (by kernel_rfl) (by kernel_rfl) (by kernel_rfl) rfl hQ hS (y_move hS rfl) rfl rfl rfl fun a hS => ?_
              rcases bool2 (u705) with hb707 | hb707
              · replace hM := ct hb707 hM
                refine dyg 22 (v := vz404_3) rfl (by kernel_rfl) (by kernel_rfl) (by kernel_rfl) rfl hQ hS (y_move hS rfl) rfl rfl rfl hb707 rfl rfl fun a hS => ?_
                refine dyg (l := []) 23 (v := .agg #[.int .i64 32, .string (ByteArray.mk #[56, 56])]) rfl (by kernel_rfl) (by kernel_rfl) (by kernel_rfl) (by kernel_rfl) hQ hS (y_load hS rfl ty32 4 rfl eo_nil (us := [.int .i64 32, .string (ByteArray.mk #[56, 56])]) rfl rfl (fun h => by cases h)) rfl rfl rfl hb707 rfl rfl fun a hS => ?_
                refine wpE_oneg (i := 24) rfl (by kernel_rfl) hS rfl rfl rfl hb707 (k_bslice (ps := [(0, .tmp 95)]) hS el23 ze32 (zl := [.int .i64 0, .string (ByteArray.mk #[])]) (by kernel_rfl) rfl (us := [[.int .i64 32, .string (ByteArray.mk #[56, 56])]]) ⟨rfl, trivial⟩ (ws := [.int .i64 32, .string (ByteArray.mk #[56, 56])]) rfl rfl rfl rfl fun b708 a w hk hS => ⟨stN (hk), ?_⟩)
                replace hS := hS.lit (R := R_KeyD) (us := [.int .i64 32, .string (ByteArray.mk #[56, 56])]) (xs := [(KeyD.mk 32 (ByteArray.mk #[56, 56]))]) 0 rfl (by decide) (RowsOk.one_ (R := R_KeyD) (x := (KeyD.mk 32 (ByteArray.mk #[56, 56]))) rfl) rfl rfl
                have hL := hS
                replace hL := hL.freeze (R := R_KeyD) 0 rfl 0 rfl
                obtain ⟨u710, hu710, hM⟩ := bd hM
                refine wpE_oneg (i := 25) rfl (by kernel_rfl) hS rfl rfl rfl hb707 (k_call hS ci17 rfl rfl (group_Checks_c _ _ hL.dlt (hL.get 12 rfl) u403.1 ([(KeyD.mk 32 (ByteArray.mk #[56, 56]))]) _ _ (hL.get 9 rfl) (hL.get 0 rfl) _ hu710) fun _ w hR a hk hA => ⟨stN (hk), ?_⟩)
                obtain ⟨vz711_3, clz711_4, he, ⟨hOvz711_3, hFvz711_3, hRvz711_3⟩⟩ := hR
                replace he := he.symm
                subst he
                have hS := hA [.own vz711_3 44 R_CheckD.size clz711_4] (adds1 ⟨hOvz711_3, by decide⟩ hFvz711_3) (pw1 _)
                replace hS := hS.fact (RowsF R_CheckD clz711_4 u710) hRvz711_3
                refine dyg 26 (v := .int .i64 (u710.length : Int)) rfl (by kernel_rfl) (by kernel_rfl) (by kernel_rfl) rfl hQ hS (y_leno (R := R_CheckD) (xs := u710) hS sl39 rfl 0 rfl 0 rfl) rfl rfl rfl hb707 rfl rfl fun a hS => ?_
                refine dyg 27 (v := .bool (((u710.length : Int) : Int) == 0)) rfl (by kernel_rfl) (by kernel_rfl) (by kernel_rfl) rfl hQ hS (y_int hS rfl rfl rfl) rfl rfl rfl hb707 rfl rfl fun a hS => ?_
                refine dy 28 (v := .bool (((u710.length : Int) : Int) == 0)) rfl (by kernel_rfl) (by kernel_rfl) (by kernel_rfl) rfl hQ hS (y_pickt hS rfl hb707 rfl) rfl rfl rfl fun a hS => ?_
                refine dy 29 (v := .bool (((u710.length : Int) : Int) == 0)) rfl (by kernel_rfl) (by kernel_rfl) (by kernel_rfl) rfl hQ hS (y_move hS rfl) rfl rfl rfl fun a hS => ?_
                rcases bool2 (((u710.length : Int) : Int) == 0) with hb713 | hb713
                · replace hM := ct hb713 hM
                  obtain ⟨u714, hu714, hM⟩ := bd hM
                  refine wpE_oneg (i := 30) rfl (by kernel_rfl) hS rfl rfl rfl hb713 (k_call hS ci8 rfl rfl (law29_awake_c _ _ hS.dlt (hS.get 12 rfl) _ hu714) fun _ w hR a hk hA => ⟨stN (hk), ?_⟩)
                  have he := Eq.symm hR
                  subst he
                  have hS := hA [] (fun r hr => by cases hr) List.Pairwise.nil
                  refine dy 31 (v := .bool u714) rfl (by kernel_rfl) (by kernel_rfl) (by kernel_rfl) rfl hQ hS (y_pickt hS rfl hb713 rfl) rfl rfl rfl fun a hS => ?_
                  refine dy 32 (v := .bool u714) rfl (by kernel_rfl) (by kernel_rfl) (by kernel_rfl) rfl hQ hS (y_assign hS rfl) rfl rfl rfl fun a hS => ?_
                  refine wpE_done (by kernel_rfl) ?_ _
                  try simp only [Exit.then, Exit.inBlock, ↓reduceIte, Nat.reduceEqDiff]
                  exact ⟨u714, (hS.meet [] (by decide) ⟨rfl, trivial⟩ trivial ⟨⟨12, rfl⟩, trivial⟩), hM⟩
                · replace hM := cf hb713 hM
                  refine dyn 30 rfl (by kernel_rfl) (by kernel_rfl) (by kernel_rfl) hQ hS rfl rfl rfl hb713 rfl rfl fun a hS => ?_
                  refine dy 31 (v := .bool false) rfl (by kernel_rfl) (by kernel_rfl) (by kernel_rfl) rfl hQ hS (y_pickf hS rfl hb713 rfl) rfl rfl rfl fun a hS => ?_
                  refine dy 32 (v := .bool false) rfl (by kernel_rfl) (by kernel_rfl) (by kernel_rfl) rfl hQ hS (y_assign hS rfl) rfl rfl rfl fun a hS => ?_
                  refine wpE_done (by kernel_rfl) ?_ _
                  try simp only [Exit.then, Exit.inBlock, ↓reduceIte, Nat.reduceEqDiff]
                  exact ⟨false, (hS.meet [] (by decide) ⟨rfl, trivial⟩ trivial ⟨⟨12, rfl⟩, trivial⟩), hM⟩
              · replace hM := cf hb707 hM
                refine dyn 22 rfl (by kernel_rfl) (by kernel_rfl) (by kernel_rfl) hQ hS rfl rfl rfl hb707 rfl rfl fun a hS => ?_
                refine dyn 23 rfl (by kernel_rfl) (by kernel_rfl) (by kernel_rfl) hQ hS rfl rfl rfl hb707 rfl rfl fun a hS => ?_
                refine dyn 24 rfl (by kernel_rfl) (by kernel_rfl) (by kernel_rfl) hQ hS rfl rfl rfl hb707 rfl rfl fun a hS => ?_
                refine dyn 25 rfl (by kernel_rfl) (by kernel_rfl) (by kernel_rfl) hQ hS rfl rfl rfl hb707 rfl rfl fun a hS => ?_
                refine dyn 26 rfl (by kernel_rfl) (by kernel_rfl) (by kernel_rfl) hQ hS rfl rfl rfl hb707 rfl rfl fun a hS => ?_
                refine dyn 27 rfl (by kernel_rfl) (by kernel_rfl) (by kernel_rfl) hQ hS rfl rfl rfl hb707 rfl rfl fun a hS => ?_
                refine dy 28 (v := .bool false) rfl (by kernel_rfl) (by kernel_rfl) (by kernel_rfl) rfl hQ hS (y_pickf hS rfl hb707 rfl) rfl rfl rfl fun a hS => ?_
                refine dy 29 (v := .bool false) rfl (by kernel_rfl) (by kernel_rfl) (by kernel_rfl) rfl hQ hS (y_move hS rfl) rfl rfl rfl fun a hS => ?_
                refine dyn 30 rfl (by kernel_rfl) (by kernel_rfl) (by kernel_rfl) hQ hS rfl rfl rfl rfl rfl rfl fun a hS => ?_
                refine dy 31 (v := .bool false) rfl (by kernel_rfl) (by kernel_rfl) (by kernel_rfl) rfl hQ hS (y_pickf hS rfl rfl rfl) rfl rfl rfl fun a hS => ?_
                refine dy 32 (v := .bool false) rfl (by kernel_rfl) (by kernel_rfl) (by kernel_rfl) rfl hQ hS (y_assign hS rfl) rfl rfl rfl fun a hS => ?_
                refine wpE_done (by kernel_rfl) ?_ _
                try simp only [Exit.then, Exit.inBlock, ↓reduceIte, Nat.reduceEqDiff]
                exact ⟨false, (hS.meet [] (by decide) ⟨rfl, trivial⟩ trivial ⟨⟨10, rfl⟩, trivial⟩), hM⟩
            · skip
              skip
              refine id (k_bslice (ps := [(0, .tmp 89)]) hS el23 ze32 (zl := [.int .i64 0, .string (ByteArray.mk #[])]) (by kernel_rfl) rfl (us := [[.int .i64 32, .string (ByteArray.mk #[56, 56])]]) ⟨rfl, trivial⟩ (ws := [.int .i64 32, .string (ByteArray.mk #[56, 56])]) rfl rfl rfl rfl fun b701 a w hk hS => ⟨stN (hk), ?_⟩)
              refine wpE_oneg (i := 16) rfl (by kernel_rfl) hS rfl rfl rfl hb699 (k_call hS ci13 rfl rfl (group_Of_c _ _ hS.dlt (hS.get 8 rfl) u403.1 u406 (KeyD.mk 32 (ByteArray.mk #[56, 56])) _ (hS.get 5 rfl) _ hu700) fun _ w hR a hk hA => ⟨stN (hk), ?_⟩)
              obtain ⟨vz703_2, clz703_3, he, ⟨hOvz703_2, hFvz703_2, hRvz703_2⟩⟩ := hR
              replace he := he.symm
              subst he
              have hS := hA [.own vz703_2 32 R_KeyD.size clz703_3] (adds1 ⟨hOvz703_2, by decide⟩ hFvz703_2) (pw1 _)
              replace hS := hS.fact (RowsF R_KeyD clz703_3 u700) (hRvz703_2.keep (Kt.refl _ _) (dT_dT _))
              replace hS := hS.lit (R := R_KeyD) (us := [.int .i64 32, .string (ByteArray.mk #[56, 56])]) (xs := [(KeyD.mk 32 (ByteArray.mk #[56, 56]))]) 1 rfl (by decide) (RowsOk.one_ (R := R_KeyD) (x := (KeyD.mk 32 (ByteArray.mk #[56, 56]))) rfl) rfl rfl
              have hL := hS
              replace hL := hL.freeze (R := R_KeyD) 0 rfl 1 rfl
              replace hL := hL.freeze (R := R_KeyD) 0 rfl 1 rfl
              obtain ⟨u705, hu705, hM⟩ := bd hM
              refine wpE_oneg (i := 19) rfl (by kernel_rfl) hS rfl rfl rfl hb699 (k_call hS ci15 rfl rfl (ref23_SameList_c _ _ hL.dlt u700 ([(KeyD.mk 32 (ByteArray.mk #[56, 56]))]) _ _ (hL.get 1 rfl) (hL.get 0 rfl) _ hu705) fun _ w hR a hk hA => ⟨stN (hk), ?_⟩)
              have he := Eq.symm hR
              subst he
              have hS := hA [] (fun r hr => by cases hr) List.Pairwise.nil
              refine dy 20 (v := .bool u705) rfl (by kernel_rfl) (by kernel_rfl) (by kernel_rfl) rfl hQ hS (y_pickt hS rfl hb699 rfl) rfl rfl rfl fun a hS => ?_
              refine dy 21 (v := .bool u705) rfl (by kernel_rfl) (by kernel_rfl) (by kernel_rfl) rfl hQ hS (y_move hS rfl) rfl rfl rfl fun a hS => ?_
              rcases bool2 (u705) with hb707 | hb707
              · replace hM := ct hb707 hM
                refine dyg 22 (v := vz404_3) rfl (by kernel_rfl) (by kernel_rfl) (by kernel_rfl) rfl hQ hS (y_move hS rfl) rfl rfl rfl hb707 rfl rfl fun a hS => ?_
                refine dyg (l := []) 23 (v := .agg #[.int .i64 32, .string (ByteArray.mk #[56, 56])]) rfl (by kernel_rfl) (by kernel_rfl) (by kernel_rfl) (by kernel_rfl) hQ hS (y_load hS rfl ty32 4 rfl eo_nil (us := [.int .i64 32, .string (ByteArray.mk #[56, 56])]) rfl rfl (fun h => by cases h)) rfl rfl rfl hb707 rfl rfl fun a hS => ?_
                refine wpE_oneg (i := 24) rfl (by kernel_rfl) hS rfl rfl rfl hb707 (k_bslice (ps := [(0, .tmp 95)]) hS el23 ze32 (zl := [.int .i64 0, .string (ByteArray.mk #[])]) (by kernel_rfl) rfl (us := [[.int .i64 32, .string (ByteArray.mk #[56, 56])]]) ⟨rfl, trivial⟩ (ws := [.int .i64 32, .string (ByteArray.mk #[56, 56])]) rfl rfl rfl rfl fun b708 a w hk hS => ⟨stN (hk), ?_⟩)
                replace hS := hS.lit (R := R_KeyD) (us := [.int .i64 32, .string (ByteArray.mk #[56, 56])]) (xs := [(KeyD.mk 32 (ByteArray.mk #[56, 56]))]) 0 rfl (by decide) (RowsOk.one_ (R := R_KeyD) (x := (KeyD.mk 32 (ByteArray.mk #[56, 56]))) rfl) rfl rfl
                have hL := hS
                replace hL := hL.freeze (R := R_KeyD) 0 rfl 0 rfl
                obtain ⟨u710, hu710, hM⟩ := bd hM
                refine wpE_oneg (i := 25) rfl (by kernel_rfl) hS rfl rfl rfl hb707 (k_call hS ci17 rfl rfl (group_Checks_c _ _ hL.dlt (hL.get 12 rfl) u403.1 ([(KeyD.mk 32 (ByteArray.mk #[56, 56]))]) _ _ (hL.get 9 rfl) (hL.get 0 rfl) _ hu710) fun _ w hR a hk hA => ⟨stN (hk), ?_⟩)
                obtain ⟨vz711_3, clz711_4, he, ⟨hOvz711_3, hFvz711_3, hRvz711_3⟩⟩ := hR
                replace he := he.symm
                subst he
                have hS := hA [.own vz711_3 44 R_CheckD.size clz711_4] (adds1 ⟨hOvz711_3, by decide⟩ hFvz711_3) (pw1 _)
                replace hS := hS.fact (RowsF R_CheckD clz711_4 u710) hRvz711_3
                refine dyg 26 (v := .int .i64 (u710.length : Int)) rfl (by kernel_rfl) (by kernel_rfl) (by kernel_rfl) rfl hQ hS (y_leno (R := R_CheckD) (xs := u710) hS sl39 rfl 0 rfl 0 rfl) rfl rfl rfl hb707 rfl rfl fun a hS => ?_
                refine dyg 27 (v := .bool (((u710.length : Int) : Int) == 0)) rfl (by kernel_rfl) (by kernel_rfl) (by kernel_rfl) rfl hQ hS (y_int hS rfl rfl rfl) rfl rfl rfl hb707 rfl rfl fun a hS => ?_
                refine dy 28 (v := .bool (((u710.length : Int) : Int) == 0)) rfl (by kernel_rfl) (by kernel_rfl) (by kernel_rfl) rfl hQ hS (y_pickt hS rfl hb707 rfl) rfl rfl rfl fun a hS => ?_
                refine dy 29 (v := .bool (((u710.length : Int) : Int) == 0)) rfl (by kernel_rfl) (by kernel_rfl) (by kernel_rfl) rfl hQ hS (y_move hS rfl) rfl rfl rfl fun a hS => ?_
                rcases bool2 (((u710.length : Int) : Int) == 0) with hb713 | hb713
                · replace hM := ct hb713 hM
                  obtain ⟨u714, hu714, hM⟩ := bd hM
                  refine wpE_oneg (i := 30) rfl (by kernel_rfl) hS rfl rfl rfl hb713 (k_call hS ci8 rfl rfl (law29_awake_c _ _ hS.dlt (hS.get 12 rfl) _ hu714) fun _ w hR a hk hA => ⟨stN (hk), ?_⟩)
                  have he := Eq.symm hR
                  subst he
                  have hS := hA [] (fun r hr => by cases hr) List.Pairwise.nil
                  refine dy 31 (v := .bool u714) rfl (by kernel_rfl) (by kernel_rfl) (by kernel_rfl) rfl hQ hS (y_pickt hS rfl hb713 rfl) rfl rfl rfl fun a hS => ?_
                  refine dy 32 (v := .bool u714) rfl (by kernel_rfl) (by kernel_rfl) (by kernel_rfl) rfl hQ hS (y_assign hS rfl) rfl rfl rfl fun a hS => ?_
                  refine wpE_done (by kernel_rfl) ?_ _
                  try simp only [Exit.then, Exit.inBlock, ↓reduceIte, Nat.reduceEqDiff]
                  exact ⟨u714, (hS.meet [] (by decide) ⟨rfl, trivial⟩ trivial ⟨⟨12, rfl⟩, trivial⟩), hM⟩
                · replace hM := cf hb713 hM
                  refine dyn 30 rfl (by kernel_rfl) (by kernel_rfl) (by kernel_rfl) hQ hS rfl rfl rfl hb713 rfl rfl fun a hS => ?_
                  refine dy 31 (v := .bool false) rfl (by kernel_rfl) (by kernel_rfl) (by kernel_rfl) rfl hQ hS (y_pickf hS rfl hb713 rfl) rfl rfl rfl fun a hS => ?_
                  refine dy 32 (v := .bool false) rfl (by kernel_rfl) (by kernel_rfl) (by kernel_rfl) rfl hQ hS (y_assign hS rfl) rfl rfl rfl fun a hS => ?_
                  refine wpE_done (by kernel_rfl) ?_ _
                  try simp only [Exit.then, Exit.inBlock, ↓reduceIte, Nat.reduceEqDiff]
                  exact ⟨false, (hS.meet [] (by decide) ⟨rfl, trivial⟩ trivial ⟨⟨12, rfl⟩, trivial⟩), hM⟩
              · replace hM := cf hb707 hM
                refine dyn 22 rfl (by kernel_rfl) (by kernel_rfl) (by kernel_rfl) hQ hS rfl rfl rfl hb707 rfl rfl fun a hS => ?_
                refine dyn 23 rfl (by kernel_rfl) (by kernel_rfl) (by kernel_rfl) hQ hS rfl rfl rfl hb707 rfl rfl fun a hS => ?_
                refine dyn 24 rfl (by kernel_rfl) (by kernel_rfl) (by kernel_rfl) hQ hS rfl rfl rfl hb707 rfl rfl fun a hS => ?_
                refine dyn 25 rfl (by kernel_rfl) (by kernel_rfl) (by kernel_rfl) hQ hS rfl rfl rfl hb707 rfl rfl fun a hS => ?_
                refine dyn 26 rfl (by kernel_rfl) (by kernel_rfl) (by kernel_rfl) hQ hS rfl rfl rfl hb707 rfl rfl fun a hS => ?_
                refine dyn 27 rfl (by kernel_rfl) (by kernel_rfl) (by kernel_rfl) hQ hS rfl rfl rfl hb707 rfl rfl fun a hS => ?_
                refine dy 28 (v := .bool false) rfl (by kernel_rfl) (by kernel_rfl) (by kernel_rfl) rfl hQ hS (y_pickf hS rfl hb707 rfl) rfl rfl rfl fun a hS => ?_
                refine dy 29 (v := .bool false) rfl (by kernel_rfl) (by kernel_rfl) (by kernel_rfl) rfl hQ hS (y_move hS rfl) rfl rfl rfl fun a hS => ?_
                refine dyn 30 rfl (by kernel_rfl) (by kernel_rfl) (by kernel_rfl) hQ hS rfl rfl rfl rfl rfl rfl fun a hS => ?_
                refine dy 31 (v := .bool false) rfl (by kernel_rfl) (by kernel_rfl) (by kernel_rfl) rfl hQ hS (y_pickf hS rfl rfl rfl) rfl rfl rfl fun a hS => ?_
                refine dy 32 (v := .bool false) rfl (by kernel_rfl) (by kernel_rfl) (by kernel_rfl) rfl hQ hS (y_assign hS rfl) rfl rfl rfl fun a hS => ?_
                refine wpE_done (by kernel_rfl) ?_ _
                try simp only [Exit.then, Exit.inBlock, ↓reduceIte, Nat.reduceEqDiff]
                exact ⟨false, (hS.meet [] (by decide) ⟨rfl, trivial⟩ trivial ⟨⟨10, rfl⟩, trivial⟩), hM⟩
          · replace hM := cf hb699 hM
            refine dyn 13 rfl (by kernel_rfl) (by kernel_rfl) (by kernel_rfl) hQ hS rfl rfl rfl hb699 rfl rfl fun a hS => ?_
            refine dyn 14 rfl (by kernel_rfl) (by kernel_rfl) (by kernel_rfl) hQ hS rfl rfl rfl hb699 rfl rfl fun a hS => ?_
            refine dyn 15 rfl (by kernel_rfl) (by kernel_rfl) (by kernel_rfl) hQ hS rfl rfl rfl hb699 rfl rfl fun a hS => ?_
            refine dyn 16 rfl (by kernel_rfl) (by kernel_rfl) (by kernel_rfl) hQ hS rfl rfl rfl hb699 rfl rfl fun a hS => ?_
            refine dyn 17 rfl (by kernel_rfl) (by kernel_rfl) (by kernel_rfl) hQ hS rfl rfl rfl hb699 rfl rfl fun a hS => ?_
            refine dyn 18 rfl (by kernel_rfl) (by kernel_rfl) (by kernel_rfl) hQ hS rfl rfl rfl hb699 rfl rfl fun a hS => ?_
            refine dyn 19 rfl (by kernel_rfl) (by kernel_rfl) (by kernel_rfl) hQ hS rfl rfl rfl hb699 rfl rfl fun a hS => ?_
            refine dy 20 (v := .bool false) rfl (by kernel_rfl) (by kernel_rfl) (by kernel_rfl) rfl hQ hS (y_pickf hS rfl hb699 rfl) rfl rfl rfl fun a hS => ?_
            refine dy 21 (v := .bool false) rfl (by kernel_rfl) (by kernel_rfl) (by kernel_rfl) rfl hQ hS (y_move hS rfl) rfl rfl rfl fun a hS => ?_
            refine dyn 22 rfl (by kernel_rfl) (by kernel_rfl) (by kernel_rfl) hQ hS rfl rfl rfl rfl rfl rfl fun a hS => ?_
            refine dyn 23 rfl (by kernel_rfl) (by kernel_rfl) (by kernel_rfl) hQ hS rfl rfl rfl rfl rfl rfl fun a hS => ?_
            refine dyn 24 rfl (by kernel_rfl) (by kernel_rfl) (by kernel_rfl) hQ hS rfl rfl rfl rfl rfl rfl fun a hS => ?_
            refine dyn 25 rfl (by kernel_rfl) (by kernel_rfl) (by kernel_rfl) hQ hS rfl rfl rfl rfl rfl rfl fun a hS => ?_
            refine dyn 26 rfl (by kernel_rfl) (by kernel_rfl) (by kernel_rfl) hQ hS rfl rfl rfl rfl rfl rfl fun a hS => ?_
            refine dyn 27 rfl (by kernel_rfl) (by kernel_rfl) (by kernel_rfl) hQ hS rfl rfl rfl rfl rfl rfl fun a hS => ?_
            refine dy 28 (v := .bool false) rfl (by kernel_rfl) (by kernel_rfl) (by kernel_rfl) rfl hQ hS (y_pickf hS rfl rfl rfl) rfl rfl rfl fun a hS => ?_
            refine dy 29 (v := .bool false) rfl (by kernel_rfl) (by kernel_rfl) (by kernel_rfl) rfl hQ hS (y_move hS rfl) rfl rfl rfl fun a hS => ?_
            refine dyn 30 rfl (by kernel_rfl) (by kernel_rfl) (by kernel_rfl) hQ hS rfl rfl rfl rfl rfl rfl fun a hS => ?_
            refine dy 31 (v := .bool false) rfl (by kernel_rfl) (by kernel_rfl) (by kernel_rfl) rfl hQ hS (y_pickf hS rfl rfl rfl) rfl rfl rfl fun a hS => ?_
            refine dy 32 (v := .bool false) rfl (by kernel_rfl) (by kernel_rfl) (by kernel_rfl) rfl hQ hS (y_assign hS rfl) rfl rfl rfl fun a hS => ?_
            refine wpE_done (by kernel_rfl) ?_ _
            try simp only [Exit.then, Exit.inBlock, ↓reduceIte, Nat.reduceEqDiff]
            exact ⟨false, (hS.meet [] (by decide) ⟨rfl, trivial⟩ trivial ⟨⟨8, rfl⟩, trivial⟩), hM⟩
        · replace hM := cf hb695 hM
          refine dyn 6 rfl (by kernel_rfl) (by kernel_rfl) (by kernel_rfl) hQ hS rfl rfl rfl hb695 rfl rfl fun a hS => ?_
          refine dyn 7 rfl (by kernel_rfl) (by kernel_rfl) (by kernel_rfl) hQ hS rfl rfl rfl hb695 rfl rfl fun a hS => ?_
          refine dyn 8 rfl (by kernel_rfl) (by kernel_rfl) (by kernel_rfl) hQ hS rfl rfl rfl hb695 rfl rfl fun a hS => ?_
          refine dyn 9 rfl (by kernel_rfl) (by kernel_rfl) (by kernel_rfl) hQ hS rfl rfl rfl hb695 rfl rfl fun a hS => ?_
          refine dyn 10 rfl (by kernel_rfl) (by kernel_rfl) (by kernel_rfl) hQ hS rfl rfl rfl hb695 rfl rfl fun a hS => ?_
          refine dy 11 (v := .bool false) rfl (by kernel_rfl) (by kernel_rfl) (by kernel_rfl) rfl hQ hS (y_pickf hS rfl hb695 rfl) rfl rfl rfl fun a hS => ?_
          refine dy 12 (v := .bool false) rfl (by kernel_rfl) (by kernel_rfl) (by kernel_rfl) rfl hQ hS (y_move hS rfl) rfl rfl rfl fun a hS => ?_
          refine dyn 13 rfl (by kernel_rfl) (by kernel_rfl) (by kernel_rfl) hQ hS rfl rfl rfl rfl rfl rfl fun a hS => ?_
          refine dyn 14 rfl (by kernel_rfl) (by kernel_rfl) (by kernel_rfl) hQ hS rfl rfl rfl rfl rfl rfl fun a hS => ?_
          refine dyn 15 rfl (by kernel_rfl) (by kernel_rfl) (by kernel_rfl) hQ hS rfl rfl rfl rfl rfl rfl fun a hS => ?_
          refine dyn 16 rfl (by kernel_rfl) (by kernel_rfl) (by kernel_rfl) hQ hS rfl rfl rfl rfl rfl rfl fun a hS => ?_
          refine dyn 17 rfl (by kernel_rfl) (by kernel_rfl) (by kernel_rfl) hQ hS rfl rfl rfl rfl rfl rfl fun a hS => ?_
          refine dyn 18 rfl (by kernel_rfl) (by kernel_rfl) (by kernel_rfl) hQ hS rfl rfl rfl rfl rfl rfl fun a hS => ?_
          refine dyn 19 rfl (by kernel_rfl) (by kernel_rfl) (by kernel_rfl) hQ hS rfl rfl rfl rfl rfl rfl fun a hS => ?_
          refine dy 20 (v := .bool false) rfl (by kernel_rfl) (by kernel_rfl) (by kernel_rfl) rfl hQ hS (y_pickf hS rfl rfl rfl) rfl rfl rfl fun a hS => ?_
          refine dy 21 (v := .bool false) rfl (by kernel_rfl) (by kernel_rfl) (by kernel_rfl) rfl hQ hS (y_move hS rfl) rfl rfl rfl fun a hS => ?_
          refine dyn 22 rfl (by kernel_rfl) (by kernel_rfl) (by kernel_rfl) hQ hS rfl rfl rfl rfl rfl rfl fun a hS => ?_
          refine dyn 23 rfl (by kernel_rfl) (by kernel_rfl) (by kernel_rfl) hQ hS rfl rfl rfl rfl rfl rfl fun a hS => ?_
          refine dyn 24 rfl (by kernel_rfl) (by kernel_rfl) (by kernel_rfl) hQ hS rfl rfl rfl rfl rfl rfl fun a hS => ?_
          refine dyn 25 rfl (by kernel_rfl) (by kernel_rfl) (by kernel_rfl) hQ hS rfl rfl rfl rfl rfl rfl fun a hS => ?_
          refine dyn 26 rfl (by kernel_rfl) (by kernel_rfl) (by kernel_rfl) hQ hS rfl rfl rfl rfl rfl rfl fun a hS => ?_
          refine dyn 27 rfl (by kernel_rfl) (by kernel_rfl) (by kernel_rfl) hQ hS rfl rfl rfl rfl rfl rfl fun a hS => ?_
          refine dy 28 (v := .bool false) rfl (by kernel_rfl) (by kernel_rfl) (by kernel_rfl) rfl hQ hS (y_pickf hS rfl rfl rfl) rfl rfl rfl fun a hS => ?_
          refine dy 29 (v := .bool false) rfl (by kernel_rfl) (by kernel_rfl) (by kernel_rfl) rfl hQ hS (y_move hS rfl) rfl rfl rfl fun a hS => ?_
          refine dyn 30 rfl (by kernel_rfl) (by kernel_rfl) (by kernel_rfl) hQ hS rfl rfl rfl rfl rfl rfl fun a hS => ?_
          refine dy 31 (v := .bool false) rfl (by kernel_rfl) (by kernel_rfl) (by kernel_rfl) rfl hQ hS (y_pickf hS rfl rfl rfl) rfl rfl rfl fun a hS => ?_
          refine dy 32 (v := .bool false) rfl (by kernel_rfl) (by kernel_rfl) (by kernel_rfl) rfl hQ hS (y_assign hS rfl) rfl rfl rfl fun a hS => ?_
          refine wpE_done (by kernel_rfl) ?_ _
          try simp only [Exit.then, Exit.inBlock, ↓reduceIte, Nat.reduceEqDiff]
          exact ⟨false, (hS.meet [] (by decide) ⟨rfl, trivial⟩ trivial ⟨⟨7, rfl⟩, trivial⟩), hM⟩
      · rintro a w ⟨g665, hS, hM⟩
        unfold law29_GroupAlone_j1 at hM
        refine wp_ret ?_
        injection hM with hM
        subst hM
        try simp only [Exit.then, Exit.inBlock, ↓reduceIte, Nat.reduceEqDiff]
        refine ret_ok hS Tryd.results6 (res_tmp hS rfl res_nil) ?_
        exact rfl
end Go.Proofs.YtdappapdddnciaaDoor
