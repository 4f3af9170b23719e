/- What functions of the program compute; that they do. -/
import Derived.Test.YtjoilbmkcknnfaaDoorMT
import Derived.Test.YtjoilbmkcknnfaaDoorD1
import Derived.Test.YtjoilbmkcknnfaaDoorD2
import Derived.Test.YtjoilbmkcknnfaaDoorE1
import Derived.Test.YtjoilbmkcknnfaaDoorF1
set_option linter.unusedVariables false
set_option linter.unusedSimpArgs false
namespace Go.Proofs.YtjoilbmkcknnfaaDoor
open Go.RowKit
noncomputable def law23_KeyBack_j1 (g3156 : Bool) : Option Bool := some (g3156)
noncomputable def law23_KeyBack_j2 (u2211 : (List KeyD)) : Option Bool := (key_Sorted u2211).bind fun u3157 => cond (((u3157.length : Int) : Int) == (u2211.length : Int)) ((ref22_Cyclic 17).bind fun u3161 => (key_Cyclic (KeyD.mk 17 (ByteArray.mk #[]))).bind fun u3163 => cond (u3161 == u3163) ((law23_awake).bind fun u3166 => law23_KeyBack_j1 u3166) (law23_KeyBack_j1 false)) (law23_KeyBack_j1 false)
noncomputable def law23_KeyBack_j3 (g3460 : Int) : Option (Fl (Int) (Fl (Unit) Bool)) := some (.go (IntKind.i64.wrap (g3460 + 1)))
noncomputable def law23_KeyBack_j4 (g3460 : Int) (n3976 : Int) : Option (Fl (Int) (Fl (Unit) Bool)) := cond ((n3976 : Int) != 1) (some (.out (.out false))) (law23_KeyBack_j3 g3460)
noncomputable def law23_KeyBack_j5 (g4011 : Int) (n4059 : Int) : Option (Fl (Int × Int) (Int)) := some (.go (n4059, IntKind.i64.wrap (g4011 + 1)))
noncomputable def law23_KeyBack_l6 (u2211 : (List KeyD)) (e3899 : KeyD) (n4010 : Int) (g4011 : Int) : Option (Fl (Int × Int) (Int)) := cond (decide ((g4011 : Int) < (u2211.length : Int))) ((getI u2211 g4011).bind fun e4060 => (key_Cmp e3899 e4060).bind fun u4071 => cond ((u4071 : Int) == 0) (law23_KeyBack_j5 g4011 (IntKind.i64.wrap (n4010 + 1))) (law23_KeyBack_j5 g4011 n4010)) (some (.out n4010))
noncomputable def law23_KeyBack_l7 (raw_ : (List KeyD)) (u2087 : (List KeyD)) (u2211 : (List KeyD)) (g3460 : Int) : Option (Fl (Int) (Fl (Unit) Bool)) := cond (decide ((g3460 : Int) < ((u2087 ++ raw_).length : Int))) ((getI (u2087 ++ raw_) g3460).bind fun e3899 => (loop (fun s : Int × Int => law23_KeyBack_l6 u2211 e3899 s.1 s.2) (0, 0)).bind fun r => law23_KeyBack_j4 g3460 r) (some (.out (.go ())))
noncomputable def law23_KeyBack_j8 (raw_ : (List KeyD)) (u2087 : (List KeyD)) (u2211 : (List KeyD)) : Option Bool := (loop (fun s : Int => law23_KeyBack_l7 raw_ u2087 u2211 s) 0).bind fun r => Fl.el r (fun s => law23_KeyBack_j2 u2211) (fun y => some (y))
noncomputable def law23_KeyBack_l9 (u2211 : (List KeyD)) (i4241 : Int) : Option (Fl (Int) (Fl (Unit) Bool)) := cond (decide ((i4241 : Int) < (u2211.length : Int))) ((getI u2211 (IntKind.i64.wrap (i4241 - 1))).bind fun e4533 => (getI u2211 i4241).bind fun e4542 => (key_Cmp e4533 e4542).bind fun u4551 => cond (decide ((0 : Int) ≤ u4551)) (some (.out (.out false))) ((getI u2211 i4241).bind fun e4554 => (getI u2211 (IntKind.i64.wrap (i4241 - 1))).bind fun e4563 => (key_Cmp e4554 e4563).bind fun u4572 => cond (decide ((u4572 : Int) ≤ 0)) (some (.out (.out false))) (some (.go (IntKind.i64.wrap (i4241 + 1)))))) (some (.out (.go ())))
noncomputable def law23_KeyBack_j10 (raw_ : (List KeyD)) (u2087 : (List KeyD)) : Option Bool := (key_Sorted (u2087 ++ raw_)).bind fun u2211 => (loop (fun s : Int => law23_KeyBack_l9 u2211 s) 1).bind fun r => Fl.el r (fun s => law23_KeyBack_j8 raw_ u2087 u2211) (fun y => some (y))
noncomputable def law23_KeyBack_j11 (g4633 : Int) : Option (Fl (Int) (Fl (Unit) Bool)) := some (.go (IntKind.i64.wrap (g4633 + 1)))
noncomputable def law23_KeyBack_l12 (raw_ : (List KeyD)) (u2087 : (List KeyD)) (g4633 : Int) : Option (Fl (Int) (Fl (Unit) Bool)) := cond (decide ((g4633 : Int) < ((u2087 ++ raw_).length : Int))) ((getI (u2087 ++ raw_) g4633).bind fun e4721 => cond (decide ((500 : Int) < (e4721.Text.size : Int))) (law23_KeyBack_j11 g4633) ((key_Valid e4721).bind fun u4736 => cond (!(u4736)) (law23_KeyBack_j11 g4633) ((key_Print e4721).bind fun u4739 => (key_Parse u4739).bind fun u4741 => cond ((u4741.2 : Int) != 0) (some (.out (.out false))) (cond (!((u4741.1.Kind : Int) == e4721.Kind && u4741.1.Text.toList == e4721.Text.toList)) (some (.out (.out false))) (law23_KeyBack_j11 g4633))))) (some (.out (.go ())))
noncomputable def law23_KeyBack (raw_ : (List KeyD)) (t_1 : (List Int)) : Option Bool := cond (decide ((30 : Int) < (raw_.length : Int))) ((law23_awake).bind fun u2080 => some (u2080)) ((mill_Light t_1).bind fun u2082 => cond (!(u2082)) ((law23_awake).bind fun u2085 => some (u2085)) ((law23_keys t_1).bind fun u2087 => gd (roomB (u2087.length + raw_.length)) <| (loop (fun s : Int => law23_KeyBack_l12 raw_ u2087 s) 0).bind fun r => Fl.el r (fun s => law23_KeyBack_j10 raw_ u2087) (fun y => some (y))))
set_option maxRecDepth 100000 in
set_option maxHeartbeats 4000000 in
theorem law23_KeyBack_c (T : Nat → Prop) (W0 : World) (hT : ∀ k, T k → k < W0.heap.size) (hLv : LvP T W0) (raw_ : (List KeyD)) (t_1 : (List Int)) (v1 : Value) (v2 : Value) (hv1 : SlR R_KeyD T W0 v1 raw_) (hv2 : SlR (Rep.int .i64) T W0 v2 t_1) (y : Bool) (hM : law23_KeyBack raw_ t_1 = some y) : Rets Tryd.prog No 12 [v1, v2] W0 (fun v w' => v = .bool y) := by
  refine enter (c := _) Tryd.func12 rfl T 128 Tryd.ntmps12 hT rfl fun a hS => ?_
  replace hS := hS.fact LvF (LvP.dn hLv)
  replace hS := hS.fact (SlF R_KeyD v1 raw_) (SlR.dn hv1)
  replace hS := hS.fact (SlF (Rep.int .i64) v2 t_1) (SlR.dn hv2)
  unfold law23_KeyBack at hM
  refine wp_seq_k fun K334 hK334 => ?_
  refine r_list ?_
  refine wl rfl (ky (v := .bool false) hS (y_assign hS rfl) rfl rfl fun a hS => ?_)
  refine wpList_nil ?_
  try simp only [Exit.then, Exit.inBlock, ↓reduceIte, Nat.reduceEqDiff]
  refine hK334 _ _ ?_
  refine wp_seq_k fun K335 hK335 => ?_
  refine wp_seq_k fun K336 hK336 => ?_
  refine r_list ?_
  refine wl rfl (ky (v := v1) hS (y_move hS rfl) rfl rfl fun a hS => ?_)
  refine wl rfl (ky (v := .int .i64 (raw_.length : Int)) hS (y_len (R := R_KeyD) (xs := raw_) hS sl22 rfl 1 rfl) rfl rfl fun a hS => ?_)
  refine wl rfl (ky (v := .bool (decide ((30 : Int) < (raw_.length : Int)))) hS (y_int hS rfl rfl rfl) rfl rfl fun a hS => ?_)
  refine wl rfl (ky (v := .bool (decide ((30 : Int) < (raw_.length : Int)))) hS (y_move hS rfl) rfl rfl fun a hS => ?_)
  rcases bool2 (decide ((30 : Int) < (raw_.length : Int))) with hb2079 | hb2079
  · replace hM := ct hb2079 hM
    refine wn hS rfl rfl rfl hb2079 rfl rfl fun a hS => ?_
    refine wn hS rfl rfl rfl hb2079 rfl rfl fun a hS => ?_
    refine wn hS rfl rfl rfl hb2079 rfl rfl fun a hS => ?_
    refine wl rfl (ky (v := .bool true) hS (y_pickt hS rfl hb2079 rfl) rfl rfl fun a hS => ?_)
    refine wpList_nil ?_
    try simp only [Exit.then, Exit.inBlock, ↓reduceIte, Nat.reduceEqDiff]
    refine hK336 _ _ ?_
    refine c_t hS rfl rfl ?_
    refine wp_seq_k fun K337 hK337 => ?_
    refine r_list ?_
    obtain ⟨u2080, hu2080, hM⟩ := bd hM
    refine wl rfl (k_call hS ci14 rfl rfl (law23_awake_c _ _ hS.dlt (hS.get 2 rfl) _ hu2080) fun _ w hR a hk hA => ?_)
    have he := Eq.symm hR
    subst he
    have hS := hA [] (fun r hr => by cases hr) List.Pairwise.nil
    refine wl rfl (ky (v := .bool u2080) hS (y_assign hS rfl) rfl rfl fun a hS => ?_)
    refine wpList_nil ?_
    try simp only [Exit.then, Exit.inBlock, ↓reduceIte, Nat.reduceEqDiff]
    refine hK337 _ _ ?_
    refine wp_ret ?_
    injection hM with hM
    subst hM
    try simp only [Exit.then, Exit.inBlock, ↓reduceIte, Nat.reduceEqDiff]
    refine ret_ok hS Tryd.results12 (res_tmp hS rfl res_nil) ?_
    exact rfl
  · replace hM := cf hb2079 hM
    refine wg hS rfl rfl rfl hb2079 (ky (v := v2) hS (y_move hS rfl) rfl rfl fun a hS => ?_)
    obtain ⟨u2082, hu2082, hM⟩ := bd hM
    refine wg hS rfl rfl rfl hb2079 (k_call hS ci13 rfl rfl (mill_Light_c _ _ hS.dlt t_1 _ (hS.get 0 rfl) _ hu2082) fun _ w hR a hk hA => ?_)
    have he := Eq.symm hR
    subst he
    have hS := hA [] (fun r hr => by cases hr) List.Pairwise.nil
    refine wg hS rfl rfl rfl hb2079 (ky (v := .bool (!(u2082))) hS (y_not hS rfl) rfl rfl fun a hS => ?_)
    refine wl rfl (ky (v := .bool (!(u2082))) hS (y_pickf hS rfl hb2079 rfl) rfl rfl fun a hS => ?_)
    refine wpList_nil ?_
    try simp only [Exit.then, Exit.inBlock, ↓reduceIte, Nat.reduceEqDiff]
    refine hK336 _ _ ?_
    rcases bool2 (!(u2082)) with hb2084 | hb2084
    · replace hM := ct hb2084 hM
      refine c_t hS rfl hb2084 ?_
      refine wp_seq_k fun K338 hK338 => ?_
      refine r_list ?_
      obtain ⟨u2085, hu2085, hM⟩ := bd hM
      refine wl rfl (k_call hS ci14 rfl rfl (law23_awake_c _ _ hS.dlt (hS.get 2 rfl) _ hu2085) fun _ w hR a hk hA => ?_)
      have he := Eq.symm hR
      subst he
      have hS := hA [] (fun r hr => by cases hr) List.Pairwise.nil
      refine wl rfl (ky (v := .bool u2085) hS (y_assign hS rfl) rfl rfl fun a hS => ?_)
      refine wpList_nil ?_
      try simp only [Exit.then, Exit.inBlock, ↓reduceIte, Nat.reduceEqDiff]
      refine hK338 _ _ ?_
      refine wp_ret ?_
      injection hM with hM
      subst hM
      try simp only [Exit.then, Exit.inBlock, ↓reduceIte, Nat.reduceEqDiff]
      refine ret_ok hS Tryd.results12 (res_tmp hS rfl res_nil) ?_
      exact rfl
    · replace hM := cf hb2084 hM
      refine c_f hS rfl hb2084 ?_
      refine wp_skip ?_
      try simp only [Exit.then, Exit.inBlock, ↓reduceIte, Nat.reduceEqDiff]
      refine hK335 _ _ ?_
      refine wp_seq_k fun K339 hK339 => ?_
      refine r_list ?_
      refine wl rfl (ky (v := v2) hS (y_move hS rfl) rfl rfl fun a hS => ?_)
      obtain ⟨u2087, hu2087, hM⟩ := bd hM
      refine wl rfl (k_call hS ci15 rfl rfl (law23_keys_c _ _ hS.dlt t_1 _ (hS.get 0 rfl) _ hu2087) fun _ w hR a hk hA => ?_)
      obtain ⟨vz2088_2, clz2088_3, he, ⟨hOvz2088_2, hFvz2088_2, hRvz2088_2⟩⟩ := hR
      replace he := he.symm
      subst he
      have hS := hA [.own vz2088_2 28 R_KeyD.size clz2088_3] (adds1 ⟨hOvz2088_2, by decide⟩ hFvz2088_2) (pw1 _)
      replace hS := hS.fact (RowsF R_KeyD clz2088_3 u2087) (hRvz2088_2.keep (Kt.refl _ _) (dT_dT _))
      refine wl rfl (ky (v := v1) hS (y_move hS rfl) rfl rfl fun a hS => ?_)
      obtain ⟨hg2090, hM⟩ := gd_some hM
      refine wl rfl (k_apps (R := R_KeyD) (xs := u2087) (ys := raw_) hS el22 (by decide) (by decide) rfl rfl 0 rfl 0 rfl 2 rfl hg2090 rfl fun v2091 cl2092 a w hk hS => ?_)
      refine wl rfl (ky (v := v2091) hS (y_assign hS rfl) rfl rfl fun a hS => ?_)
      refine wpList_nil ?_
      try simp only [Exit.then, Exit.inBlock, ↓reduceIte, Nat.reduceEqDiff]
      refine hK339 _ _ ?_
      refine seq_j (J := fun a w => St W0 No T 128 [(5, v2091)] [.own v2091 28 R_KeyD.size cl2092] [RowsF R_KeyD cl2092 (u2087 ++ raw_), LvF] a w ∧ law23_KeyBack_j10 raw_ u2087 = some y) ?_ ?_
      · skip
        refine wp_seq_k fun K724 hK724 => ?_
        refine r_list ?_
        refine wl rfl (ky (v := v2091) hS (y_move hS rfl) rfl rfl fun a hS => ?_)
        refine wl rfl (ky (v := .int .i64 ((u2087 ++ raw_).length : Int)) hS (y_leno (R := R_KeyD) (xs := (u2087 ++ raw_)) hS sl22 rfl 0 rfl 0 rfl) rfl rfl fun a hS => ?_)
        refine wl rfl (ky (v := .int .i64 0) hS (y_move hS rfl) rfl rfl fun a hS => ?_)
        refine wpList_nil ?_
        try simp only [Exit.then, Exit.inBlock, ↓reduceIte, Nat.reduceEqDiff]
        refine hK724 _ _ ?_
        refine wp_block ?_
        obtain ⟨r1, hl1, hMo1⟩ := bd hM
        refine wp_lp (fun s : Int => law23_KeyBack_l12 raw_ u2087 s) (fun s a w => ∃ (g4633 : Int), g4633 = s ∧ St W0 No T 128 [(5, v2091), (30, v2091), (31, .int .i64 ((u2087 ++ raw_).length : Int)), (32, .int .i64 g4633)] [.own v2091 28 R_KeyD.size cl2092] [RowsF R_KeyD cl2092 (u2087 ++ raw_), LvF] a w) hl1 ⟨0, rfl, (hS.meet [0] (by decide) ⟨rfl, rfl, rfl, rfl, trivial⟩ ⟨rfl, trivial⟩ ⟨⟨0, rfl⟩, ⟨4, rfl⟩, trivial⟩)⟩ ?_
        rintro s a w f1 ⟨g4633, rfl, hS⟩ hM hf1
        have hM : law23_KeyBack_l12 raw_ u2087 g4633 = some f1 := hM
        unfold law23_KeyBack_l12 at hM
        refine wp_seq_k fun K757 hK757 => ?_
        refine r_list ?_
        refine wl rfl (ky (v := .bool (decide ((g4633 : Int) < ((u2087 ++ raw_).length : Int)))) hS (y_int hS rfl rfl rfl) rfl rfl fun a hS => ?_)
        refine wpList_nil ?_
        try simp only [Exit.then, Exit.inBlock, ↓reduceIte, Nat.reduceEqDiff]
        refine hK757 _ _ ?_
        refine wp_seq_k fun K758 hK758 => ?_
        rcases bool2 (decide ((g4633 : Int) < ((u2087 ++ raw_).length : Int))) with hb4692 | hb4692
        · replace hM := ct hb4692 hM
          refine c_t hS rfl hb4692 ?_
          refine wp_skip ?_
          try simp only [Exit.then, Exit.inBlock, ↓reduceIte, Nat.reduceEqDiff]
          refine hK758 _ _ ?_
          refine seq_j (J := fun a w => St W0 No T 128 [(5, v2091), (30, v2091), (31, .int .i64 ((u2087 ++ raw_).length : Int)), (32, .int .i64 g4633)] [.own v2091 28 R_KeyD.size cl2092] [RowsF R_KeyD cl2092 (u2087 ++ raw_), LvF] a w ∧ law23_KeyBack_j11 g4633 = some f1) ?_ ?_
          · skip
            refine wp_block ?_
            refine wp_seq_k fun K766 hK766 => ?_
            refine r_list ?_
            obtain ⟨e4721, he4721, hM⟩ := bd hM
            refine wl rfl (k_indexo (R := R_KeyD) hS sl22 ty28 rfl rfl 0 rfl 0 rfl he4721 rfl fun b4722 o4723 p4728 cs4725 hr4724 hO4726 hC4727 a hS => ?_)
            obtain rfl := hr4724
            refine wl rfl (ky (v := .agg #[.int .i64 e4721.Kind, .string e4721.Text]) hS (y_loado (k := 0) hS ty28 0 rfl hO4726 hC4727 rfl id (us := [.int .i64 e4721.Kind, .string e4721.Text]) rfl rfl (fun h => by cases h)) rfl rfl fun a hS => ?_)
            refine wl rfl (k_alloc hS ze28 rfl fun b4729 hnb4731 a w hk hS => ?_)
            refine wl rfl (k_store hS rfl rfl (us := [.int .i64 e4721.Kind, .string e4721.Text]) rfl ty28 0 rfl rfl rfl (oc rfl (oc rfl on)) fun w hk hS => ?_)
            refine wpList_nil ?_
            try simp only [Exit.then, Exit.inBlock, ↓reduceIte, Nat.reduceEqDiff]
            refine hK766 _ _ ?_
            refine wp_seq_k fun K767 hK767 => ?_
            refine wp_seq_k fun K768 hK768 => ?_
            refine r_list ?_
            refine wl rfl (ky (v := .pointer (some ⟨b4729, 0 + 1, none⟩)) hS (y_fld hS rfl fl28_1) rfl rfl fun a hS => ?_)
            refine wl rfl (ky (v := .string e4721.Text) hS (y_load hS rfl ty9 0 rfl id (us := [.string e4721.Text]) rfl rfl (fun _ => rfl)) rfl rfl fun a hS => ?_)
            refine wl rfl (ky (v := .int .i64 (e4721.Text.size : Int)) hS (y_lens hS Tryd.underlying9 rfl) rfl rfl fun a hS => ?_)
            refine wl rfl (ky (v := .bool (decide ((500 : Int) < (e4721.Text.size : Int)))) hS (y_int hS rfl rfl rfl) rfl rfl fun a hS => ?_)
            refine wl rfl (ky (v := .bool (decide ((500 : Int) < (e4721.Text.size : Int)))) hS (y_move hS rfl) rfl rfl fun a hS => ?_)
            rcases bool2 (decide ((500 : Int) < (e4721.Text.size : Int))) with hb4735 | hb4735
            · replace hM := ct hb4735 hM
              refine wn hS rfl rfl rfl hb4735 rfl rfl fun a hS => ?_
              refine wn hS rfl rfl rfl hb4735 rfl rfl fun a hS => ?_
              refine wn hS rfl rfl rfl hb4735 rfl rfl fun a hS => ?_
              refine wl rfl (ky (v := .bool true) hS (y_pickt hS rfl hb4735 rfl) rfl rfl fun a hS => ?_)
              refine wpList_nil ?_
              try simp only [Exit.then, Exit.inBlock, ↓reduceIte, Nat.reduceEqDiff]
              refine hK768 _ _ ?_
              refine c_t hS rfl rfl ?_
              refine wp_exit ?_
              try simp only [Exit.then, Exit.inBlock, ↓reduceIte, Nat.reduceEqDiff]
              exact ⟨(hS.meet [1] (by decide) ⟨rfl, rfl, rfl, rfl, trivial⟩ ⟨rfl, trivial⟩ ⟨⟨0, rfl⟩, ⟨1, rfl⟩, trivial⟩), hM⟩
            · replace hM := cf hb4735 hM
              refine wg hS rfl rfl rfl hb4735 (ky (v := .agg #[.int .i64 e4721.Kind, .string e4721.Text]) hS (y_load hS rfl ty28 0 rfl id (us := [.int .i64 e4721.Kind, .string e4721.Text]) rfl rfl (fun h => by cases h)) rfl rfl fun a hS => ?_)
              obtain ⟨u4736, hu4736, hM⟩ := bd hM
              refine wg hS rfl rfl rfl hb4735 (k_call hS ci21 rfl rfl (key_Valid_c _ _ hS.dlt (hS.get 1 rfl) e4721 _ hu4736) fun _ w hR a hk hA => ?_)
              have he := Eq.symm hR
              subst he
              have hS := hA [] (fun r hr => by cases hr) List.Pairwise.nil
              refine wg hS rfl rfl rfl hb4735 (ky (v := .bool (!(u4736))) hS (y_not hS rfl) rfl rfl fun a hS => ?_)
              refine wl rfl (ky (v := .bool (!(u4736))) hS (y_pickf hS rfl hb4735 rfl) rfl rfl fun a hS => ?_)
              refine wpList_nil ?_
              try simp only [Exit.then, Exit.inBlock, ↓reduceIte, Nat.reduceEqDiff]
              refine hK768 _ _ ?_
              rcases bool2 (!(u4736)) with hb4738 | hb4738
              · replace hM := ct hb4738 hM
                refine c_t hS rfl hb4738 ?_
                refine wp_exit ?_
                try simp only [Exit.then, Exit.inBlock, ↓reduceIte, Nat.reduceEqDiff]
                exact ⟨(hS.meet [1] (by decide) ⟨rfl, rfl, rfl, rfl, trivial⟩ ⟨rfl, trivial⟩ ⟨⟨0, rfl⟩, ⟨1, rfl⟩, trivial⟩), hM⟩
              · replace hM := cf hb4738 hM
                refine c_f hS rfl hb4738 ?_
                refine wp_skip ?_
                try simp only [Exit.then, Exit.inBlock, ↓reduceIte, Nat.reduceEqDiff]
                refine hK767 _ _ ?_
                refine wp_seq_k fun K769 hK769 => ?_
                refine r_list ?_
                refine wl rfl (ky (v := .agg #[.int .i64 e4721.Kind, .string e4721.Text]) hS (y_load hS rfl ty28 0 rfl id (us := [.int .i64 e4721.Kind, .string e4721.Text]) rfl rfl (fun h => by cases h)) rfl rfl fun a hS => ?_)
                obtain ⟨u4739, hu4739, hM⟩ := bd hM
                refine wl rfl (k_call hS ci16 rfl rfl (key_Print_c _ _ hS.dlt (hS.get 1 rfl) e4721 _ hu4739) fun _ w hR a hk hA => ?_)
                have he := Eq.symm hR
                subst he
                have hS := hA [] (fun r hr => by cases hr) List.Pairwise.nil
                obtain ⟨u4741, hu4741, hM⟩ := bd hM
                refine wl rfl (k_call hS ci19 rfl rfl (key_Parse_c _ _ hS.dlt (hS.get 1 rfl) u4739 _ hu4741) fun _ w hR a hk hA => ?_)
                have he := Eq.symm hR
                subst he
                have hS := hA [] (fun r hr => by cases hr) List.Pairwise.nil
                refine wl rfl (ky (v := .tuple #[.agg #[.int .i64 u4741.1.Kind, .string u4741.1.Text], .int .i64 u4741.2]) hS (y_move hS rfl) rfl rfl fun a hS => ?_)
                refine wl rfl (ky (v := .agg #[.int .i64 u4741.1.Kind, .string u4741.1.Text]) hS (y_ex hS rfl rfl) rfl rfl fun a hS => ?_)
                refine wl rfl (ky (v := .int .i64 u4741.2) hS (y_ex hS rfl rfl) rfl rfl fun a hS => ?_)
                refine wl rfl (k_alloc hS ze28 rfl fun b4743 hnb4745 a w hk hS => ?_)
                refine wl rfl (k_store hS rfl rfl (us := [.int .i64 u4741.1.Kind, .string u4741.1.Text]) rfl ty28 0 rfl rfl rfl (oc rfl (oc rfl on)) fun w hk hS => ?_)
                refine wl rfl (ky (v := .int .i64 u4741.2) hS (y_assign hS rfl) rfl rfl fun a hS => ?_)
                refine wpList_nil ?_
                try simp only [Exit.then, Exit.inBlock, ↓reduceIte, Nat.reduceEqDiff]
                refine hK769 _ _ ?_
                refine wp_seq_k fun K770 hK770 => ?_
                refine r_list ?_
                refine wl rfl (ky (v := .int .i64 u4741.2) hS (y_move hS rfl) rfl rfl fun a hS => ?_)
                refine wl rfl (ky (v := .bool ((u4741.2 : Int) != 0)) hS (y_int hS rfl rfl rfl) rfl rfl fun a hS => ?_)
                refine wl rfl (ky (v := .bool ((u4741.2 : Int) != 0)) hS (y_move hS rfl) rfl rfl fun a hS => ?_)
                rcases bool2 ((u4741.2 : Int) != 0) with hb4747 | hb4747
                · replace hM := ct hb4747 hM
                  refine wn hS rfl rfl rfl hb4747 rfl rfl fun a hS => ?_
                  refine wn hS rfl rfl rfl hb4747 rfl rfl fun a hS => ?_
                  refine wn hS rfl rfl rfl hb4747 rfl rfl fun a hS => ?_
                  refine wl rfl (ky (v := .bool true) hS (y_pickt hS rfl hb4747 rfl) rfl rfl fun a hS => ?_)
                  refine wpList_nil ?_
                  try simp only [Exit.then, Exit.inBlock, ↓reduceIte, Nat.reduceEqDiff]
                  refine hK770 _ _ ?_
                  refine c_t hS rfl rfl ?_
                  refine wp_seq_k fun K771 hK771 => ?_
                  refine r_list ?_
                  refine wl rfl (ky (v := .bool false) hS (y_assign hS rfl) rfl rfl fun a hS => ?_)
                  refine wpList_nil ?_
                  try simp only [Exit.then, Exit.inBlock, ↓reduceIte, Nat.reduceEqDiff]
                  refine hK771 _ _ ?_
                  refine wp_ret ?_
                  injection hM with hM
                  subst hM
                  have hr := hf1 _ rfl
                  subst hr
                  replace hMo1 := el_out hMo1
                  have hM := hMo1
                  injection hM with hM
                  subst hM
                  try simp only [Exit.then, Exit.inBlock, ↓reduceIte, Nat.reduceEqDiff]
                  refine ret_ok hS Tryd.results12 (res_tmp hS rfl res_nil) ?_
                  exact rfl
                · replace hM := cf hb4747 hM
                  refine wg hS rfl rfl rfl hb4747 (ky (v := .agg #[.int .i64 u4741.1.Kind, .string u4741.1.Text]) hS (y_load hS rfl ty28 0 rfl id (us := [.int .i64 u4741.1.Kind, .string u4741.1.Text]) rfl rfl (fun h => by cases h)) rfl rfl fun a hS => ?_)
                  refine wg hS rfl rfl rfl hb4747 (ky (v := .agg #[.int .i64 e4721.Kind, .string e4721.Text]) hS (y_load hS rfl ty28 1 rfl id (us := [.int .i64 e4721.Kind, .string e4721.Text]) rfl rfl (fun h => by cases h)) rfl rfl fun a hS => ?_)
                  refine wg hS rfl rfl rfl hb4747 (ky (v := .bool (!((u4741.1.Kind : Int) == e4721.Kind && u4741.1.Text.toList == e4721.Text.toList))) hS (eq28n hS rfl rfl) rfl rfl fun a hS => ?_)
                  refine wl rfl (ky (v := .bool (!((u4741.1.Kind : Int) == e4721.Kind && u4741.1.Text.toList == e4721.Text.toList))) hS (y_pickf hS rfl hb4747 rfl) rfl rfl fun a hS => ?_)
                  refine wpList_nil ?_
                  try simp only [Exit.then, Exit.inBlock, ↓reduceIte, Nat.reduceEqDiff]
                  refine hK770 _ _ ?_
                  rcases bool2 (!((u4741.1.Kind : Int) == e4721.Kind && u4741.1.Text.toList == e4721.Text.toList)) with hb4748 | hb4748
                  · replace hM := ct hb4748 hM
                    refine c_t hS rfl hb4748 ?_
                    refine wp_seq_k fun K772 hK772 => ?_
                    refine r_list ?_
                    refine wl rfl (ky (v := .bool false) hS (y_assign hS rfl) rfl rfl fun a hS => ?_)
                    refine wpList_nil ?_
                    try simp only [Exit.then, Exit.inBlock, ↓reduceIte, Nat.reduceEqDiff]
                    refine hK772 _ _ ?_
                    refine wp_ret ?_
                    injection hM with hM
                    subst hM
                    have hr := hf1 _ rfl
                    subst hr
                    replace hMo1 := el_out hMo1
                    have hM := hMo1
                    injection hM with hM
                    subst hM
                    try simp only [Exit.then, Exit.inBlock, ↓reduceIte, Nat.reduceEqDiff]
                    refine ret_ok hS Tryd.results12 (res_tmp hS rfl res_nil) ?_
                    exact rfl
                  · replace hM := cf hb4748 hM
                    refine c_f hS rfl hb4748 ?_
                    refine wp_skip ?_
                    try simp only [Exit.then, Exit.inBlock, ↓reduceIte, Nat.reduceEqDiff]
                    exact ⟨(hS.meet [2] (by decide) ⟨rfl, rfl, rfl, rfl, trivial⟩ ⟨rfl, trivial⟩ ⟨⟨0, rfl⟩, ⟨1, rfl⟩, trivial⟩), hM⟩
          · rintro a w ⟨hS, hM⟩
            unfold law23_KeyBack_j11 at hM
            refine r_list ?_
            refine wl rfl (ky (v := .int .i64 (IntKind.i64.wrap (g4633 + 1))) hS (y_int hS rfl rfl rfl) rfl rfl fun a hS => ?_)
            refine wl rfl (ky (v := .int .i64 (IntKind.i64.wrap (g4633 + 1))) hS (y_move hS rfl) rfl rfl fun a hS => ?_)
            refine wpList_nil ?_
            try simp only [Exit.then, Exit.inBlock, ↓reduceIte, Nat.reduceEqDiff]
            exact ⟨IntKind.i64.wrap (g4633 + 1), (Option.some.inj hM).symm, (IntKind.i64.wrap (g4633 + 1)), rfl, (hS.meet [0] (by decide) ⟨rfl, rfl, rfl, rfl, trivial⟩ ⟨rfl, trivial⟩ ⟨⟨0, rfl⟩, ⟨1, rfl⟩, trivial⟩)⟩
        · replace hM := cf hb4692 hM
          refine c_f hS rfl hb4692 ?_
          refine wp_exit ?_
          try simp only [Exit.then, Exit.inBlock, ↓reduceIte, Nat.reduceEqDiff]
          injection hM with hM
          subst hM
          have hr := hf1 _ rfl
          subst hr
          replace hMo1 := el_go hMo1
          have hM : law23_KeyBack_j10 raw_ u2087 = some y := hMo1
          exact ⟨(hS.meet [0] (by decide) ⟨rfl, trivial⟩ ⟨rfl, trivial⟩ ⟨⟨0, rfl⟩, ⟨1, rfl⟩, trivial⟩), hM⟩
      · rintro a w ⟨hS, hM⟩
        unfold law23_KeyBack_j10 at hM
        refine wp_seq_k fun K373 hK373 => ?_
        refine r_list ?_
        refine wl rfl (ky (v := v2091) hS (y_move hS rfl) rfl rfl fun a hS => ?_)
        have hL := hS
        replace hL := hL.freeze (R := R_KeyD) 0 rfl 0 rfl
        obtain ⟨u2211, hu2211, hM⟩ := bd hM
        refine wl rfl (k_call hS ci55 rfl rfl (key_Sorted_c _ _ hL.dlt (hL.get 2 rfl) (u2087 ++ raw_) _ (hL.get 0 rfl) _ hu2211) fun _ w hR a hk hA => ?_)
        obtain ⟨vz2212_2, clz2212_3, he, ⟨hOvz2212_2, hFvz2212_2, hRvz2212_2⟩⟩ := hR
        replace he := he.symm
        subst he
        have hS := hA [.own vz2212_2 28 R_KeyD.size clz2212_3] (adds1 ⟨hOvz2212_2, by decide⟩ hFvz2212_2) (pw1 _)
        replace hS := hS.fact (RowsF R_KeyD clz2212_3 u2211) hRvz2212_2
        refine wl rfl (ky (v := vz2212_2) hS (y_assign hS rfl) rfl rfl fun a hS => ?_)
        refine wpList_nil ?_
        try simp only [Exit.then, Exit.inBlock, ↓reduceIte, Nat.reduceEqDiff]
        refine hK373 _ _ ?_
        refine seq_j (J := fun a w => St W0 No T 128 [(5, v2091), (10, vz2212_2)] [.own v2091 28 R_KeyD.size cl2092, .own vz2212_2 28 R_KeyD.size clz2212_3] [RowsF R_KeyD cl2092 (u2087 ++ raw_), RowsF R_KeyD clz2212_3 u2211, LvF] a w ∧ law23_KeyBack_j8 raw_ u2087 u2211 = some y) ?_ ?_
        · skip
          refine wp_seq_k fun K705 hK705 => ?_
          refine r_list ?_
          refine wl rfl (ky (v := .int .i64 1) hS (y_assign hS rfl) rfl rfl fun a hS => ?_)
          refine wpList_nil ?_
          try simp only [Exit.then, Exit.inBlock, ↓reduceIte, Nat.reduceEqDiff]
          refine hK705 _ _ ?_
          refine wp_block ?_
          obtain ⟨r1, hl1, hMo1⟩ := bd hM
          refine wp_lp (fun s : Int => law23_KeyBack_l9 u2211 s) (fun s a w => ∃ (i4241 : Int), i4241 = s ∧ St W0 No T 128 [(5, v2091), (10, vz2212_2), (11, .int .i64 i4241)] [.own v2091 28 R_KeyD.size cl2092, .own vz2212_2 28 R_KeyD.size clz2212_3] [RowsF R_KeyD cl2092 (u2087 ++ raw_), RowsF R_KeyD clz2212_3 u2211, LvF] a w) hl1 ⟨1, rfl, (hS.meet [1, 0] (by decide) ⟨rfl, rfl, rfl, trivial⟩ ⟨rfl, rfl, trivial⟩ ⟨⟨1, rfl⟩, ⟨0, rfl⟩, ⟨2, rfl⟩, trivial⟩)⟩ ?_
          rintro s a w f1 ⟨i4241, rfl, hS⟩ hM hf1
          have hM : law23_KeyBack_l9 u2211 i4241 = some f1 := hM
          unfold law23_KeyBack_l9 at hM
          refine wp_seq_k fun K718 hK718 => ?_
          refine wp_seq_k fun K719 hK719 => ?_
          refine r_list ?_
          refine wl rfl (ky (v := .int .i64 i4241) hS (y_move hS rfl) rfl rfl fun a hS => ?_)
          refine wl rfl (ky (v := vz2212_2) hS (y_move hS rfl) rfl rfl fun a hS => ?_)
          refine wl rfl (ky (v := .int .i64 (u2211.length : Int)) hS (y_leno (R := R_KeyD) (xs := u2211) hS sl22 rfl 1 rfl 1 rfl) rfl rfl fun a hS => ?_)
          refine wl rfl (ky (v := .bool (decide ((i4241 : Int) < (u2211.length : Int)))) hS (y_int hS rfl rfl rfl) rfl rfl fun a hS => ?_)
          refine wpList_nil ?_
          try simp only [Exit.then, Exit.inBlock, ↓reduceIte, Nat.reduceEqDiff]
          refine hK719 _ _ ?_
          rcases bool2 (decide ((i4241 : Int) < (u2211.length : Int))) with hb4409 | hb4409
          · replace hM := ct hb4409 hM
            refine c_t hS rfl hb4409 ?_
            refine wp_skip ?_
            try simp only [Exit.then, Exit.inBlock, ↓reduceIte, Nat.reduceEqDiff]
            refine hK718 _ _ ?_
            refine wp_seq_k fun K720 hK720 => ?_
            refine wp_block ?_
            refine wp_seq_k fun K721 hK721 => ?_
            refine draws [] hS mixed rfl (fun c a d v w h => by cases d <;> exact h) fun w hQ hS => ?_
            refine dy 0 (v := vz2212_2) rfl (by kernel_rfl) (by kernel_rfl) (by kernel_rfl) rfl hQ hS (y_move hS rfl) rfl rfl rfl fun a hS => ?_
            refine dy 1 (v := .int .i64 i4241) rfl (by kernel_rfl) (by kernel_rfl) (by kernel_rfl) rfl hQ hS (y_move hS rfl) rfl rfl rfl fun a hS => ?_
            refine dy 2 (v := .int .i64 (IntKind.i64.wrap (i4241 - 1))) rfl (by kernel_rfl) (by kernel_rfl) (by kernel_rfl) rfl hQ hS (y_int hS rfl rfl rfl) rfl rfl rfl fun a hS => ?_
            obtain ⟨e4533, he4533, hM⟩ := bd hM
            obtain ⟨b4534, o4535, p4540, cs4537, hr4536, hO4538, hC4539, hy4541⟩ := d_indexo (R := R_KeyD) hS sl22 ty28 1 rfl 1 rfl he4533
            obtain rfl := hr4536
            refine dy 3 (v := .pointer (some ⟨b4534, o4535, none⟩)) rfl (by kernel_rfl) (by kernel_rfl) (by kernel_rfl) rfl hQ hS (hy4541 rfl rfl) rfl rfl rfl fun a hS => ?_
            refine dy (l := []) 4 (v := .agg #[.int .i64 e4533.Kind, .string e4533.Text]) rfl (by kernel_rfl) (by kernel_rfl) (by kernel_rfl) (by kernel_rfl) hQ hS (y_loado (k := 0) hS ty28 1 rfl hO4538 hC4539 rfl eo_nil (us := [.int .i64 e4533.Kind, .string e4533.Text]) rfl rfl (fun h => by cases h)) rfl rfl rfl fun a hS => ?_
            refine dy 5 (v := vz2212_2) rfl (by kernel_rfl) (by kernel_rfl) (by kernel_rfl) rfl hQ hS (y_move hS rfl) rfl rfl rfl fun a hS => ?_
            refine dy 6 (v := .int .i64 i4241) rfl (by kernel_rfl) (by kernel_rfl) (by kernel_rfl) rfl hQ hS (y_move hS rfl) rfl rfl rfl fun a hS => ?_
            obtain ⟨e4542, he4542, hM⟩ := bd hM
            obtain ⟨b4543, o4544, p4549, cs4546, hr4545, hO4547, hC4548, hy4550⟩ := d_indexo (R := R_KeyD) hS sl22 ty28 1 rfl 1 rfl he4542
            obtain rfl := hr4545
            refine dy 7 (v := .pointer (some ⟨b4543, o4544, none⟩)) rfl (by kernel_rfl) (by kernel_rfl) (by kernel_rfl) rfl hQ hS (hy4550 rfl rfl) rfl rfl rfl fun a hS => ?_
            refine dy (l := []) 8 (v := .agg #[.int .i64 e4542.Kind, .string e4542.Text]) rfl (by kernel_rfl) (by kernel_rfl) (by kernel_rfl) (by kernel_rfl) hQ hS (y_loado (k := 0) hS ty28 1 rfl hO4547 hC4548 rfl eo_nil (us := [.int .i64 e4542.Kind, .string e4542.Text]) rfl rfl (fun h => by cases h)) rfl rfl rfl fun a hS => ?_
            obtain ⟨u4551, hu4551, hM⟩ := bd hM
            refine wpE_one (i := 9) rfl (by kernel_rfl) rfl (k_call hS ci57 rfl rfl (key_Cmp_c _ _ hS.dlt (hS.get 2 rfl) e4533 e4542 _ hu4551) fun _ w hR a hk hA => ⟨stN (hk), ?_⟩)
            have he := Eq.symm hR
            subst he
            have hS := hA [] (fun r hr => by cases hr) List.Pairwise.nil
            refine dy 10 (v := .bool (decide ((0 : Int) ≤ u4551))) rfl (by kernel_rfl) (by kernel_rfl) (by kernel_rfl) rfl hQ hS (y_int hS rfl rfl rfl) rfl rfl rfl fun a hS => ?_
            refine dy 11 (v := .bool (decide ((0 : Int) ≤ u4551))) rfl (by kernel_rfl) (by kernel_rfl) (by kernel_rfl) rfl hQ hS (y_move hS rfl) rfl rfl rfl fun a hS => ?_
            rcases bool2 (decide ((0 : Int) ≤ u4551)) with hb4553 | hb4553
            · replace hM := ct hb4553 hM
              refine dyn 12 rfl (by kernel_rfl) (by kernel_rfl) (by kernel_rfl) hQ hS rfl rfl rfl hb4553 rfl rfl fun a hS => ?_
              refine dyn 13 rfl (by kernel_rfl) (by kernel_rfl) (by kernel_rfl) hQ hS rfl rfl rfl hb4553 rfl rfl fun a hS => ?_
              refine dyn 14 rfl (by kernel_rfl) (by kernel_rfl) (by kernel_rfl) hQ hS rfl rfl rfl hb4553 rfl rfl fun a hS => ?_
              refine dyn 15 rfl (by kernel_rfl) (by kernel_rfl) (by kernel_rfl) hQ hS rfl rfl rfl hb4553 rfl rfl fun a hS => ?_
              refine dyn 16 rfl (by kernel_rfl) (by kernel_rfl) (by kernel_rfl) hQ hS rfl rfl rfl hb4553 rfl rfl fun a hS => ?_
              refine dyn 17 rfl (by kernel_rfl) (by kernel_rfl) (by kernel_rfl) hQ hS rfl rfl rfl hb4553 rfl rfl fun a hS => ?_
              refine dyn 18 rfl (by kernel_rfl) (by kernel_rfl) (by kernel_rfl) hQ hS rfl rfl rfl hb4553 rfl rfl fun a hS => ?_
              refine dyn 19 rfl (by kernel_rfl) (by kernel_rfl) (by kernel_rfl) hQ hS rfl rfl rfl hb4553 rfl rfl fun a hS => ?_
              refine dyn 20 rfl (by kernel_rfl) (by kernel_rfl) (by kernel_rfl) hQ hS rfl rfl rfl hb4553 rfl rfl fun a hS => ?_
              refine dyn 21 rfl (by kernel_rfl) (by kernel_rfl) (by kernel_rfl) hQ hS rfl rfl rfl hb4553 rfl rfl fun a hS => ?_
              refine dyn 22 rfl (by kernel_rfl) (by kernel_rfl) (by kernel_rfl) hQ hS rfl rfl rfl hb4553 rfl rfl fun a hS => ?_
              refine dy 23 (v := .bool true) rfl (by kernel_rfl) (by kernel_rfl) (by kernel_rfl) rfl hQ hS (y_pickt hS rfl hb4553 rfl) rfl rfl rfl fun a hS => ?_
              refine wpE_done (by kernel_rfl) ?_ _
              try simp only [Exit.then, Exit.inBlock, ↓reduceIte, Nat.reduceEqDiff]
              refine hK721 _ _ ?_
              refine c_t hS rfl rfl ?_
              refine wp_seq_k fun K722 hK722 => ?_
              refine r_list ?_
              refine wl rfl (ky (v := .bool false) hS (y_assign hS rfl) rfl rfl fun a hS => ?_)
              refine wpList_nil ?_
              try simp only [Exit.then, Exit.inBlock, ↓reduceIte, Nat.reduceEqDiff]
              refine hK722 _ _ ?_
              refine wp_ret ?_
              injection hM with hM
              subst hM
              have hr := hf1 _ rfl
              subst hr
              replace hMo1 := el_out hMo1
              have hM := hMo1
              injection hM with hM
              subst hM
              try simp only [Exit.then, Exit.inBlock, ↓reduceIte, Nat.reduceEqDiff]
              refine ret_ok hS Tryd.results12 (res_tmp hS rfl res_nil) ?_
              exact rfl
            · replace hM := cf hb4553 hM
              refine dyg 12 (v := vz2212_2) rfl (by kernel_rfl) (by kernel_rfl) (by kernel_rfl) rfl hQ hS (y_move hS rfl) rfl rfl rfl hb4553 rfl rfl fun a hS => ?_
              refine dyg 13 (v := .int .i64 i4241) rfl (by kernel_rfl) (by kernel_rfl) (by kernel_rfl) rfl hQ hS (y_move hS rfl) rfl rfl rfl hb4553 rfl rfl fun a hS => ?_
              obtain ⟨e4554, he4554, hM⟩ := bd hM
              obtain ⟨b4555, o4556, p4561, cs4558, hr4557, hO4559, hC4560, hy4562⟩ := d_indexo (R := R_KeyD) hS sl22 ty28 1 rfl 1 rfl he4554
              obtain rfl := hr4557
              refine dyg 14 (v := .pointer (some ⟨b4555, o4556, none⟩)) rfl (by kernel_rfl) (by kernel_rfl) (by kernel_rfl) rfl hQ hS (hy4562 rfl rfl) rfl rfl rfl hb4553 rfl rfl fun a hS => ?_
              refine dyg (l := []) 15 (v := .agg #[.int .i64 e4554.Kind, .string e4554.Text]) rfl (by kernel_rfl) (by kernel_rfl) (by kernel_rfl) (by kernel_rfl) hQ hS (y_loado (k := 0) hS ty28 1 rfl hO4559 hC4560 rfl eo_nil (us := [.int .i64 e4554.Kind, .string e4554.Text]) rfl rfl (fun h => by cases h)) rfl rfl rfl hb4553 rfl rfl fun a hS => ?_
              refine dyg 16 (v := vz2212_2) rfl (by kernel_rfl) (by kernel_rfl) (by kernel_rfl) rfl hQ hS (y_move hS rfl) rfl rfl rfl hb4553 rfl rfl fun a hS => ?_
              refine dyg 17 (v := .int .i64 i4241) rfl (by kernel_rfl) (by kernel_rfl) (by kernel_rfl) rfl hQ hS (y_move hS rfl) rfl rfl rfl hb4553 rfl rfl fun a hS => ?_
              refine dyg 18 (v := .int .i64 (IntKind.i64.wrap (i4241 - 1))) rfl (by kernel_rfl) (by kernel_rfl) (by kernel_rfl) rfl hQ hS (y_int hS rfl rfl rfl) rfl rfl rfl hb4553 rfl rfl fun a hS => ?_
              obtain ⟨e4563, he4563, hM⟩ := bd hM
              obtain ⟨b4564, o4565, p4570, cs4567, hr4566, hO4568, hC4569, hy4571⟩ := d_indexo (R := R_KeyD) hS sl22 ty28 1 rfl 1 rfl he4563
              obtain rfl := hr4566
              refine dyg 19 (v := .pointer (some ⟨b4564, o4565, none⟩)) rfl (by kernel_rfl) (by kernel_rfl) (by kernel_rfl) rfl hQ hS (hy4571 rfl rfl) rfl rfl rfl hb4553 rfl rfl fun a hS => ?_
              refine dyg (l := []) 20 (v := .agg #[.int .i64 e4563.Kind, .string e4563.Text]) rfl (by kernel_rfl) (by kernel_rfl) (by kernel_rfl) (by kernel_rfl) hQ hS (y_loado (k := 0) hS ty28 1 rfl hO4568 hC4569 rfl eo_nil (us := [.int .i64 e4563.Kind, .string e4563.Text]) rfl rfl (fun h => by cases h)) rfl rfl rfl hb4553 rfl rfl fun a hS => ?_
              obtain ⟨u4572, hu4572, hM⟩ := bd hM
              refine wpE_oneg (i := 21) rfl (by kernel_rfl) hS rfl rfl rfl hb4553 (k_call hS ci57 rfl rfl (key_Cmp_c _ _ hS.dlt (hS.get 2 rfl) e4554 e4563 _ hu4572) fun _ w hR a hk hA => ⟨stN (hk), ?_⟩)
              have he := Eq.symm hR
              subst he
              have hS := hA [] (fun r hr => by cases hr) List.Pairwise.nil
              refine dyg 22 (v := .bool (decide ((u4572 : Int) ≤ 0))) rfl (by kernel_rfl) (by kernel_rfl) (by kernel_rfl) rfl hQ hS (y_int hS rfl rfl rfl) rfl rfl rfl hb4553 rfl rfl fun a hS => ?_
              refine dy 23 (v := .bool (decide ((u4572 : Int) ≤ 0))) rfl (by kernel_rfl) (by kernel_rfl) (by kernel_rfl) rfl hQ hS (y_pickf hS rfl hb4553 rfl) rfl rfl rfl fun a hS => ?_
              refine wpE_done (by kernel_rfl) ?_ _
              try simp only [Exit.then, Exit.inBlock, ↓reduceIte, Nat.reduceEqDiff]
              refine hK721 _ _ ?_
              rcases bool2 (decide ((u4572 : Int) ≤ 0)) with hb4574 | hb4574
              · replace hM := ct hb4574 hM
                refine c_t hS rfl hb4574 ?_
                refine wp_seq_k fun K723 hK723 => ?_
                refine r_list ?_
                refine wl rfl (ky (v := .bool false) hS (y_assign hS rfl) rfl rfl fun a hS => ?_)
                refine wpList_nil ?_
                try simp only [Exit.then, Exit.inBlock, ↓reduceIte, Nat.reduceEqDiff]
                refine hK723 _ _ ?_
                refine wp_ret ?_
                injection hM with hM
                subst hM
                have hr := hf1 _ rfl
                subst hr
                replace hMo1 := el_out hMo1
                have hM := hMo1
                injection hM with hM
                subst hM
                try simp only [Exit.then, Exit.inBlock, ↓reduceIte, Nat.reduceEqDiff]
                refine ret_ok hS Tryd.results12 (res_tmp hS rfl res_nil) ?_
                exact rfl
              · replace hM := cf hb4574 hM
                refine c_f hS rfl hb4574 ?_
                refine wp_skip ?_
                try simp only [Exit.then, Exit.inBlock, ↓reduceIte, Nat.reduceEqDiff]
                refine hK720 _ _ ?_
                refine r_list ?_
                refine wl rfl (ky (v := .int .i64 i4241) hS (y_move hS rfl) rfl rfl fun a hS => ?_)
                refine wl rfl (ky (v := .int .i64 (IntKind.i64.wrap (i4241 + 1))) hS (y_int hS rfl rfl rfl) rfl rfl fun a hS => ?_)
                refine wl rfl (ky (v := .int .i64 (IntKind.i64.wrap (i4241 + 1))) hS (y_assign hS rfl) rfl rfl fun a hS => ?_)
                refine wpList_nil ?_
                try simp only [Exit.then, Exit.inBlock, ↓reduceIte, Nat.reduceEqDiff]
                exact ⟨IntKind.i64.wrap (i4241 + 1), (Option.some.inj hM).symm, (IntKind.i64.wrap (i4241 + 1)), rfl, (hS.meet [0, 1] (by decide) ⟨rfl, rfl, rfl, trivial⟩ ⟨rfl, rfl, trivial⟩ ⟨⟨0, rfl⟩, ⟨1, rfl⟩, ⟨2, rfl⟩, trivial⟩)⟩
          · replace hM := cf hb4409 hM
            refine c_f hS rfl hb4409 ?_
            refine wp_exit ?_
            try simp only [Exit.then, Exit.inBlock, ↓reduceIte, Nat.reduceEqDiff]
            injection hM with hM
            subst hM
            have hr := hf1 _ rfl
            subst hr
            replace hMo1 := el_go hMo1
            have hM : law23_KeyBack_j8 raw_ u2087 u2211 = some y := hMo1
            exact ⟨(hS.meet [0, 1] (by decide) ⟨rfl, rfl, trivial⟩ ⟨rfl, rfl, trivial⟩ ⟨⟨0, rfl⟩, ⟨1, rfl⟩, ⟨2, rfl⟩, trivial⟩), hM⟩
        · rintro a w ⟨hS, hM⟩
          unfold law23_KeyBack_j8 at hM
          refine seq_j (J := fun a w => St W0 No T 128 [(10, vz2212_2)] [.own vz2212_2 28 R_KeyD.size clz2212_3] [RowsF R_KeyD clz2212_3 u2211, LvF] a w ∧ law23_KeyBack_j2 u2211 = some y) ?_ ?_
          · skip
            refine wp_seq_k fun K512 hK512 => ?_
            refine r_list ?_
            refine wl rfl (ky (v := v2091) hS (y_move hS rfl) rfl rfl fun a hS => ?_)
            refine wl rfl (ky (v := .int .i64 ((u2087 ++ raw_).length : Int)) hS (y_leno (R := R_KeyD) (xs := (u2087 ++ raw_)) hS sl22 rfl 0 rfl 0 rfl) rfl rfl fun a hS => ?_)
            refine wl rfl (ky (v := .int .i64 0) hS (y_move hS rfl) rfl rfl fun a hS => ?_)
            refine wpList_nil ?_
            try simp only [Exit.then, Exit.inBlock, ↓reduceIte, Nat.reduceEqDiff]
            refine hK512 _ _ ?_
            refine wp_block ?_
            obtain ⟨r1, hl1, hMo1⟩ := bd hM
            refine wp_lp (fun s : Int => law23_KeyBack_l7 raw_ u2087 u2211 s) (fun s a w => ∃ (g3460 : Int), g3460 = s ∧ St W0 No T 128 [(10, vz2212_2), (91, v2091), (92, .int .i64 ((u2087 ++ raw_).length : Int)), (93, .int .i64 g3460)] [.own vz2212_2 28 R_KeyD.size clz2212_3, .own v2091 28 R_KeyD.size cl2092] [RowsF R_KeyD clz2212_3 u2211, RowsF R_KeyD cl2092 (u2087 ++ raw_), LvF] a w) hl1 ⟨0, rfl, (hS.meet [1, 0] (by decide) ⟨rfl, rfl, rfl, rfl, trivial⟩ ⟨rfl, rfl, trivial⟩ ⟨⟨1, rfl⟩, ⟨0, rfl⟩, ⟨2, rfl⟩, trivial⟩)⟩ ?_
            rintro s a w f1 ⟨g3460, rfl, hS⟩ hM hf1
            have hM : law23_KeyBack_l7 raw_ u2087 u2211 g3460 = some f1 := hM
            unfold law23_KeyBack_l7 at hM
            refine wp_seq_k fun K637 hK637 => ?_
            refine r_list ?_
            refine wl rfl (ky (v := .bool (decide ((g3460 : Int) < ((u2087 ++ raw_).length : Int)))) hS (y_int hS rfl rfl rfl) rfl rfl fun a hS => ?_)
            refine wpList_nil ?_
            try simp only [Exit.then, Exit.inBlock, ↓reduceIte, Nat.reduceEqDiff]
            refine hK637 _ _ ?_
            refine wp_seq_k fun K638 hK638 => ?_
            rcases bool2 (decide ((g3460 : Int) < ((u2087 ++ raw_).length : Int))) with hb3753 | hb3753
            · replace hM := ct hb3753 hM
              refine c_t hS rfl hb3753 ?_
              refine wp_skip ?_
              try simp only [Exit.then, Exit.inBlock, ↓reduceIte, Nat.reduceEqDiff]
              refine hK638 _ _ ?_
              refine seq_j (J := fun a w => St W0 No T 128 [(10, vz2212_2), (91, v2091), (92, .int .i64 ((u2087 ++ raw_).length : Int)), (93, .int .i64 g3460)] [.own vz2212_2 28 R_KeyD.size clz2212_3, .own v2091 28 R_KeyD.size cl2092] [RowsF R_KeyD clz2212_3 u2211, RowsF R_KeyD cl2092 (u2087 ++ raw_), LvF] a w ∧ law23_KeyBack_j3 g3460 = some f1) ?_ ?_
              · skip
                refine wp_block ?_
                refine wp_seq_k fun K669 hK669 => ?_
                refine r_list ?_
                obtain ⟨e3899, he3899, hM⟩ := bd hM
                refine wl rfl (k_indexo (R := R_KeyD) hS sl22 ty28 rfl rfl 1 rfl 1 rfl he3899 rfl fun b3900 o3901 p3906 cs3903 hr3902 hO3904 hC3905 a hS => ?_)
                obtain rfl := hr3902
                refine wl rfl (ky (v := .agg #[.int .i64 e3899.Kind, .string e3899.Text]) hS (y_loado (k := 0) hS ty28 1 rfl hO3904 hC3905 rfl id (us := [.int .i64 e3899.Kind, .string e3899.Text]) rfl rfl (fun h => by cases h)) rfl rfl fun a hS => ?_)
                refine wl rfl (k_alloc hS ze28 rfl fun b3907 hnb3909 a w hk hS => ?_)
                refine wl rfl (k_store hS rfl rfl (us := [.int .i64 e3899.Kind, .string e3899.Text]) rfl ty28 0 rfl rfl rfl (oc rfl (oc rfl on)) fun w hk hS => ?_)
                refine wpList_nil ?_
                try simp only [Exit.then, Exit.inBlock, ↓reduceIte, Nat.reduceEqDiff]
                refine hK669 _ _ ?_
                refine wp_seq_k fun K670 hK670 => ?_
                refine r_list ?_
                refine wl rfl (ky (v := .int .i64 0) hS (y_assign hS rfl) rfl rfl fun a hS => ?_)
                refine wpList_nil ?_
                try simp only [Exit.then, Exit.inBlock, ↓reduceIte, Nat.reduceEqDiff]
                refine hK670 _ _ ?_
                refine seq_j (J := fun a w => ∃ (n3976 : Int), St W0 No T 128 [(10, vz2212_2), (14, .int .i64 n3976), (91, v2091), (92, .int .i64 ((u2087 ++ raw_).length : Int)), (93, .int .i64 g3460)] [.own vz2212_2 28 R_KeyD.size clz2212_3, .own v2091 28 R_KeyD.size cl2092] [RowsF R_KeyD clz2212_3 u2211, RowsF R_KeyD cl2092 (u2087 ++ raw_), LvF] a w ∧ law23_KeyBack_j4 g3460 n3976 = some f1) ?_ ?_
                · skip
                  refine wp_seq_k fun K686 hK686 => ?_
                  refine r_list ?_
                  refine wl rfl (ky (v := vz2212_2) hS (y_move hS rfl) rfl rfl fun a hS => ?_)
                  refine wl rfl (ky (v := .int .i64 (u2211.length : Int)) hS (y_leno (R := R_KeyD) (xs := u2211) hS sl22 rfl 1 rfl 0 rfl) rfl rfl fun a hS => ?_)
                  refine wl rfl (ky (v := .int .i64 0) hS (y_move hS rfl) rfl rfl fun a hS => ?_)
                  refine wpList_nil ?_
                  try simp only [Exit.then, Exit.inBlock, ↓reduceIte, Nat.reduceEqDiff]
                  refine hK686 _ _ ?_
                  refine wp_block ?_
                  obtain ⟨r2, hl2, hMo2⟩ := bd hM
                  refine wp_lp (fun s : Int × Int => law23_KeyBack_l6 u2211 e3899 s.1 s.2) (fun s a w => ∃ (n4010 : Int) (g4011 : Int), (n4010, g4011) = s ∧ St W0 No T 128 [(10, vz2212_2), (13, .pointer (some ⟨b3907, 0, none⟩)), (14, .int .i64 n4010), (91, v2091), (92, .int .i64 ((u2087 ++ raw_).length : Int)), (93, .int .i64 g3460), (97, vz2212_2), (98, .int .i64 (u2211.length : Int)), (99, .int .i64 g4011)] [.own vz2212_2 28 R_KeyD.size clz2212_3, .own v2091 28 R_KeyD.size cl2092, .box b3907 [.int .i64 e3899.Kind, .string e3899.Text] 28] [RowsF R_KeyD clz2212_3 u2211, RowsF R_KeyD cl2092 (u2087 ++ raw_), LvF] a w) hl2 ⟨0, 0, rfl, (hS.meet [1, 2, 0] (by decide) ⟨rfl, rfl, rfl, rfl, rfl, rfl, rfl, rfl, rfl, trivial⟩ ⟨rfl, rfl, rfl, trivial⟩ ⟨⟨0, rfl⟩, ⟨1, rfl⟩, ⟨2, rfl⟩, trivial⟩)⟩ ?_
                  rintro s a w f2 ⟨n4010, g4011, rfl, hS⟩ hM hf2
                  have hM : law23_KeyBack_l6 u2211 e3899 n4010 g4011 = some f2 := hM
                  unfold law23_KeyBack_l6 at hM
                  refine wp_seq_k fun K699 hK699 => ?_
                  refine r_list ?_
                  refine wl rfl (ky (v := .bool (decide ((g4011 : Int) < (u2211.length : Int)))) hS (y_int hS rfl rfl rfl) rfl rfl fun a hS => ?_)
                  refine wpList_nil ?_
                  try simp only [Exit.then, Exit.inBlock, ↓reduceIte, Nat.reduceEqDiff]
                  refine hK699 _ _ ?_
                  refine wp_seq_k fun K700 hK700 => ?_
                  rcases bool2 (decide ((g4011 : Int) < (u2211.length : Int))) with hb4044 | hb4044
                  · replace hM := ct hb4044 hM
                    refine c_t hS rfl hb4044 ?_
                    refine wp_skip ?_
                    try simp only [Exit.then, Exit.inBlock, ↓reduceIte, Nat.reduceEqDiff]
                    refine hK700 _ _ ?_
                    refine seq_j (J := fun a w => ∃ (n4059 : Int), St W0 No T 128 [(10, vz2212_2), (13, .pointer (some ⟨b3907, 0, none⟩)), (14, .int .i64 n4059), (91, v2091), (92, .int .i64 ((u2087 ++ raw_).length : Int)), (93, .int .i64 g3460), (97, vz2212_2), (98, .int .i64 (u2211.length : Int)), (99, .int .i64 g4011)] [.own vz2212_2 28 R_KeyD.size clz2212_3, .own v2091 28 R_KeyD.size cl2092, .box b3907 [.int .i64 e3899.Kind, .string e3899.Text] 28] [RowsF R_KeyD clz2212_3 u2211, RowsF R_KeyD cl2092 (u2087 ++ raw_), LvF] a w ∧ law23_KeyBack_j5 g4011 n4059 = some f2) ?_ ?_
                    · skip
                      refine wp_block ?_
                      refine wp_seq_k fun K703 hK703 => ?_
                      refine r_list ?_
                      obtain ⟨e4060, he4060, hM⟩ := bd hM
                      refine wl rfl (k_indexo (R := R_KeyD) hS sl22 ty28 rfl rfl 0 rfl 0 rfl he4060 rfl fun b4061 o4062 p4067 cs4064 hr4063 hO4065 hC4066 a hS => ?_)
                      obtain rfl := hr4063
                      refine wl rfl (ky (v := .agg #[.int .i64 e4060.Kind, .string e4060.Text]) hS (y_loado (k := 0) hS ty28 0 rfl hO4065 hC4066 rfl id (us := [.int .i64 e4060.Kind, .string e4060.Text]) rfl rfl (fun h => by cases h)) rfl rfl fun a hS => ?_)
                      refine wl rfl (k_alloc hS ze28 rfl fun b4068 hnb4070 a w hk hS => ?_)
                      refine wl rfl (k_store hS rfl rfl (us := [.int .i64 e4060.Kind, .string e4060.Text]) rfl ty28 0 rfl rfl rfl (oc rfl (oc rfl on)) fun w hk hS => ?_)
                      refine wpList_nil ?_
                      try simp only [Exit.then, Exit.inBlock, ↓reduceIte, Nat.reduceEqDiff]
                      refine hK703 _ _ ?_
                      refine wp_seq_k fun K704 hK704 => ?_
                      refine r_list ?_
                      refine wl rfl (ky (v := .agg #[.int .i64 e3899.Kind, .string e3899.Text]) hS (y_load hS rfl ty28 3 rfl id (us := [.int .i64 e3899.Kind, .string e3899.Text]) rfl rfl (fun h => by cases h)) rfl rfl fun a hS => ?_)
                      refine wl rfl (ky (v := .agg #[.int .i64 e4060.Kind, .string e4060.Text]) hS (y_load hS rfl ty28 0 rfl id (us := [.int .i64 e4060.Kind, .string e4060.Text]) rfl rfl (fun h => by cases h)) rfl rfl fun a hS => ?_)
                      obtain ⟨u4071, hu4071, hM⟩ := bd hM
                      refine wl rfl (k_call hS ci57 rfl rfl (key_Cmp_c _ _ hS.dlt (hS.get 2 rfl) e3899 e4060 _ hu4071) fun _ w hR a hk hA => ?_)
                      have he := Eq.symm hR
                      subst he
                      have hS := hA [] (fun r hr => by cases hr) List.Pairwise.nil
                      refine wl rfl (ky (v := .bool ((u4071 : Int) == 0)) hS (y_int hS rfl rfl rfl) rfl rfl fun a hS => ?_)
                      refine wpList_nil ?_
                      try simp only [Exit.then, Exit.inBlock, ↓reduceIte, Nat.reduceEqDiff]
                      refine hK704 _ _ ?_
                      rcases bool2 ((u4071 : Int) == 0) with hb4073 | hb4073
                      · replace hM := ct hb4073 hM
                        refine c_t hS rfl hb4073 ?_
                        refine r_list ?_
                        refine wl rfl (ky (v := .int .i64 n4010) hS (y_move hS rfl) rfl rfl fun a hS => ?_)
                        refine wl rfl (ky (v := .int .i64 (IntKind.i64.wrap (n4010 + 1))) hS (y_int hS rfl rfl rfl) rfl rfl fun a hS => ?_)
                        refine wl rfl (ky (v := .int .i64 (IntKind.i64.wrap (n4010 + 1))) hS (y_assign hS rfl) rfl rfl fun a hS => ?_)
                        refine wpList_nil ?_
                        try simp only [Exit.then, Exit.inBlock, ↓reduceIte, Nat.reduceEqDiff]
                        exact ⟨(IntKind.i64.wrap (n4010 + 1)), (hS.meet [1, 2, 3] (by decide) ⟨rfl, rfl, rfl, rfl, rfl, rfl, rfl, rfl, rfl, trivial⟩ ⟨rfl, rfl, rfl, trivial⟩ ⟨⟨0, rfl⟩, ⟨1, rfl⟩, ⟨2, rfl⟩, trivial⟩), hM⟩
                      · replace hM := cf hb4073 hM
                        refine c_f hS rfl hb4073 ?_
                        refine wp_skip ?_
                        try simp only [Exit.then, Exit.inBlock, ↓reduceIte, Nat.reduceEqDiff]
                        exact ⟨n4010, (hS.meet [1, 2, 3] (by decide) ⟨rfl, rfl, rfl, rfl, rfl, rfl, rfl, rfl, rfl, trivial⟩ ⟨rfl, rfl, rfl, trivial⟩ ⟨⟨0, rfl⟩, ⟨1, rfl⟩, ⟨2, rfl⟩, trivial⟩), hM⟩
                    · rintro a w ⟨n4059, hS, hM⟩
                      unfold law23_KeyBack_j5 at hM
                      refine r_list ?_
                      refine wl rfl (ky (v := .int .i64 (IntKind.i64.wrap (g4011 + 1))) hS (y_int hS rfl rfl rfl) rfl rfl fun a hS => ?_)
                      refine wl rfl (ky (v := .int .i64 (IntKind.i64.wrap (g4011 + 1))) hS (y_move hS rfl) rfl rfl fun a hS => ?_)
                      refine wpList_nil ?_
                      try simp only [Exit.then, Exit.inBlock, ↓reduceIte, Nat.reduceEqDiff]
                      exact ⟨(n4059, IntKind.i64.wrap (g4011 + 1)), (Option.some.inj hM).symm, n4059, (IntKind.i64.wrap (g4011 + 1)), rfl, (hS.meet [0, 1, 2] (by decide) ⟨rfl, rfl, rfl, rfl, rfl, rfl, rfl, rfl, rfl, trivial⟩ ⟨rfl, rfl, rfl, trivial⟩ ⟨⟨0, rfl⟩, ⟨1, rfl⟩, ⟨2, rfl⟩, trivial⟩)⟩
                  · replace hM := cf hb4044 hM
                    refine c_f hS rfl hb4044 ?_
                    refine wp_exit ?_
                    try simp only [Exit.then, Exit.inBlock, ↓reduceIte, Nat.reduceEqDiff]
                    injection hM with hM
                    subst hM
                    have hr := hf2 _ rfl
                    subst hr
                    have hM : law23_KeyBack_j4 g3460 n4010 = some f1 := hMo2
                    exact ⟨n4010, (hS.meet [0, 1] (by decide) ⟨rfl, rfl, rfl, rfl, rfl, trivial⟩ ⟨rfl, rfl, trivial⟩ ⟨⟨0, rfl⟩, ⟨1, rfl⟩, ⟨2, rfl⟩, trivial⟩), hM⟩
                · rintro a w ⟨n3976, hS, hM⟩
                  unfold law23_KeyBack_j4 at hM
                  refine wp_seq_k fun K684 hK684 => ?_
                  refine r_list ?_
                  refine wl rfl (ky (v := .int .i64 n3976) hS (y_move hS rfl) rfl rfl fun a hS => ?_)
                  refine wl rfl (ky (v := .bool ((n3976 : Int) != 1)) hS (y_int hS rfl rfl rfl) rfl rfl fun a hS => ?_)
                  refine wpList_nil ?_
                  try simp only [Exit.then, Exit.inBlock, ↓reduceIte, Nat.reduceEqDiff]
                  refine hK684 _ _ ?_
                  rcases bool2 ((n3976 : Int) != 1) with hb3977 | hb3977
                  · replace hM := ct hb3977 hM
                    refine c_t hS rfl hb3977 ?_
                    refine wp_seq_k fun K685 hK685 => ?_
                    refine r_list ?_
                    refine wl rfl (ky (v := .bool false) hS (y_assign hS rfl) rfl rfl fun a hS => ?_)
                    refine wpList_nil ?_
                    try simp only [Exit.then, Exit.inBlock, ↓reduceIte, Nat.reduceEqDiff]
                    refine hK685 _ _ ?_
                    refine wp_ret ?_
                    injection hM with hM
                    subst hM
                    have hr := hf1 _ rfl
                    subst hr
                    replace hMo1 := el_out hMo1
                    have hM := hMo1
                    injection hM with hM
                    subst hM
                    try simp only [Exit.then, Exit.inBlock, ↓reduceIte, Nat.reduceEqDiff]
                    refine ret_ok hS Tryd.results12 (res_tmp hS rfl res_nil) ?_
                    exact rfl
                  · replace hM := cf hb3977 hM
                    refine c_f hS rfl hb3977 ?_
                    refine wp_skip ?_
                    try simp only [Exit.then, Exit.inBlock, ↓reduceIte, Nat.reduceEqDiff]
                    exact ⟨(hS.meet [0, 1] (by decide) ⟨rfl, rfl, rfl, rfl, trivial⟩ ⟨rfl, rfl, trivial⟩ ⟨⟨0, rfl⟩, ⟨1, rfl⟩, ⟨2, rfl⟩, trivial⟩), hM⟩
              · rintro a w ⟨hS, hM⟩
                unfold law23_KeyBack_j3 at hM
                refine r_list ?_
                refine wl rfl (ky (v := .int .i64 (IntKind.i64.wrap (g3460 + 1))) hS (y_int hS rfl rfl rfl) rfl rfl fun a hS => ?_)
                refine wl rfl (ky (v := .int .i64 (IntKind.i64.wrap (g3460 + 1))) hS (y_move hS rfl) rfl rfl fun a hS => ?_)
                refine wpList_nil ?_
                try simp only [Exit.then, Exit.inBlock, ↓reduceIte, Nat.reduceEqDiff]
                exact ⟨IntKind.i64.wrap (g3460 + 1), (Option.some.inj hM).symm, (IntKind.i64.wrap (g3460 + 1)), rfl, (hS.meet [0, 1] (by decide) ⟨rfl, rfl, rfl, rfl, trivial⟩ ⟨rfl, rfl, trivial⟩ ⟨⟨0, rfl⟩, ⟨1, rfl⟩, ⟨2, rfl⟩, trivial⟩)⟩
            · replace hM := cf hb3753 hM
              refine c_f hS rfl hb3753 ?_
              refine wp_exit ?_
              try simp only [Exit.then, Exit.inBlock, ↓reduceIte, Nat.reduceEqDiff]
              injection hM with hM
              subst hM
              have hr := hf1 _ rfl
              subst hr
              replace hMo1 := el_go hMo1
              have hM : law23_KeyBack_j2 u2211 = some y := hMo1
              exact ⟨(hS.meet [0] (by decide) ⟨rfl, trivial⟩ ⟨rfl, trivial⟩ ⟨⟨0, rfl⟩, ⟨2, rfl⟩, trivial⟩), hM⟩
          · rintro a w ⟨hS, hM⟩
            unfold law23_KeyBack_j2 at hM
            refine seq_j (J := fun a w => ∃ (g3156 : Bool), St W0 No T 128 [(4, .bool g3156)] [] [LvF] a w ∧ law23_KeyBack_j1 g3156 = some y) ?_ ?_
            · skip
              refine r_list ?_
              refine wl rfl (ky (v := vz2212_2) hS (y_move hS rfl) rfl rfl fun a hS => ?_)
              have hL := hS
              replace hL := hL.freeze (R := R_KeyD) 0 rfl 0 rfl
              obtain ⟨u3157, hu3157, hM⟩ := bd hM
              refine wl rfl (k_call hS ci55 rfl rfl (key_Sorted_c _ _ hL.dlt (hL.get 2 rfl) u2211 _ (hL.get 0 rfl) _ hu3157) fun _ w hR a hk hA => ?_)
              obtain ⟨vz3158_2, clz3158_3, he, ⟨hOvz3158_2, hFvz3158_2, hRvz3158_2⟩⟩ := hR
              replace he := he.symm
              subst he
              have hS := hA [.own vz3158_2 28 R_KeyD.size clz3158_3] (adds1 ⟨hOvz3158_2, by decide⟩ hFvz3158_2) (pw1 _)
              replace hS := hS.fact (RowsF R_KeyD clz3158_3 u3157) hRvz3158_2
              refine wl rfl (ky (v := .int .i64 (u3157.length : Int)) hS (y_leno (R := R_KeyD) (xs := u3157) hS sl22 rfl 0 rfl 0 rfl) rfl rfl fun a hS => ?_)
              refine wl rfl (ky (v := vz2212_2) hS (y_move hS rfl) rfl rfl fun a hS => ?_)
              refine wl rfl (ky (v := .int .i64 (u2211.length : Int)) hS (y_leno (R := R_KeyD) (xs := u2211) hS sl22 rfl 1 rfl 1 rfl) rfl rfl fun a hS => ?_)
              refine wl rfl (ky (v := .bool (((u3157.length : Int) : Int) == (u2211.length : Int))) hS (y_int hS rfl rfl rfl) rfl rfl fun a hS => ?_)
              refine wl rfl (ky (v := .bool (((u3157.length : Int) : Int) == (u2211.length : Int))) hS (y_move hS rfl) rfl rfl fun a hS => ?_)
              rcases bool2 (((u3157.length : Int) : Int) == (u2211.length : Int)) with hb3160 | hb3160
              · replace hM := ct hb3160 hM
                obtain ⟨u3161, hu3161, hM⟩ := bd hM
                refine wg hS rfl rfl rfl hb3160 (k_call hS ci59 rfl rfl (ref22_Cyclic_c _ _ hS.dlt 17 _ hu3161) fun _ w hR a hk hA => ?_)
                have he := Eq.symm hR
                subst he
                have hS := hA [] (fun r hr => by cases hr) List.Pairwise.nil
                refine wg hS rfl rfl rfl hb3160 (ky (v := .agg #[.int .i64 17, .string (ByteArray.mk #[])]) hS (y_build (ps := [(0, .const (.int .i64 17))]) hS pl28 ze28 rfl (us := [[.int .i64 17]]) ⟨rfl, trivial⟩ (ws := [.int .i64 17, .string (ByteArray.mk #[])]) rfl) rfl rfl fun a hS => ?_)
                obtain ⟨u3163, hu3163, hM⟩ := bd hM
                refine wg hS rfl rfl rfl hb3160 (k_call hS ci27 rfl rfl (key_Cyclic_c _ _ hS.dlt (KeyD.mk 17 (ByteArray.mk #[])) _ hu3163) fun _ w hR a hk hA => ?_)
                have he := Eq.symm hR
                subst he
                have hS := hA [] (fun r hr => by cases hr) List.Pairwise.nil
                refine wg hS rfl rfl rfl hb3160 (ky (v := .bool (u3161 == u3163)) hS (y_bool hS rfl rfl Tryd.underlying4 (.inl ⟨rfl, rfl⟩)) rfl rfl fun a hS => ?_)
                refine wl rfl (ky (v := .bool (u3161 == u3163)) hS (y_pickt hS rfl hb3160 rfl) rfl rfl fun a hS => ?_)
                refine wl rfl (ky (v := .bool (u3161 == u3163)) hS (y_move hS rfl) rfl rfl fun a hS => ?_)
                rcases bool2 (u3161 == u3163) with hb3165 | hb3165
                · replace hM := ct hb3165 hM
                  obtain ⟨u3166, hu3166, hM⟩ := bd hM
                  refine wg hS rfl rfl rfl hb3165 (k_call hS ci14 rfl rfl (law23_awake_c _ _ hS.dlt (hS.get 2 rfl) _ hu3166) fun _ w hR a hk hA => ?_)
                  have he := Eq.symm hR
                  subst he
                  have hS := hA [] (fun r hr => by cases hr) List.Pairwise.nil
                  refine wl rfl (ky (v := .bool u3166) hS (y_pickt hS rfl hb3165 rfl) rfl rfl fun a hS => ?_)
                  refine wl rfl (ky (v := .bool u3166) hS (y_assign hS rfl) rfl rfl fun a hS => ?_)
                  refine wpList_nil ?_
                  try simp only [Exit.then, Exit.inBlock, ↓reduceIte, Nat.reduceEqDiff]
                  exact ⟨u3166, (hS.meet [] (by decide) ⟨rfl, trivial⟩ trivial ⟨⟨2, rfl⟩, trivial⟩), hM⟩
                · replace hM := cf hb3165 hM
                  refine wn hS rfl rfl rfl hb3165 rfl rfl fun a hS => ?_
                  refine wl rfl (ky (v := .bool false) hS (y_pickf hS rfl hb3165 rfl) rfl rfl fun a hS => ?_)
                  refine wl rfl (ky (v := .bool false) hS (y_assign hS rfl) rfl rfl fun a hS => ?_)
                  refine wpList_nil ?_
                  try simp only [Exit.then, Exit.inBlock, ↓reduceIte, Nat.reduceEqDiff]
                  exact ⟨false, (hS.meet [] (by decide) ⟨rfl, trivial⟩ trivial ⟨⟨2, rfl⟩, trivial⟩), hM⟩
              · replace hM := cf hb3160 hM
                refine wn hS rfl rfl rfl hb3160 rfl rfl fun a hS => ?_
                refine wn hS rfl rfl rfl hb3160 rfl rfl fun a hS => ?_
                refine wn hS rfl rfl rfl hb3160 rfl rfl fun a hS => ?_
                refine wn hS rfl rfl rfl hb3160 rfl rfl fun a hS => ?_
                refine wl rfl (ky (v := .bool false) hS (y_pickf hS rfl hb3160 rfl) rfl rfl fun a hS => ?_)
                refine wl rfl (ky (v := .bool false) hS (y_move hS rfl) rfl rfl fun a hS => ?_)
                refine wn hS rfl rfl rfl rfl rfl rfl fun a hS => ?_
                refine wl rfl (ky (v := .bool false) hS (y_pickf hS rfl rfl rfl) rfl rfl fun a hS => ?_)
                refine wl rfl (ky (v := .bool false) hS (y_assign hS rfl) rfl rfl fun a hS => ?_)
                refine wpList_nil ?_
                try simp only [Exit.then, Exit.inBlock, ↓reduceIte, Nat.reduceEqDiff]
                exact ⟨false, (hS.meet [] (by decide) ⟨rfl, trivial⟩ trivial ⟨⟨2, rfl⟩, trivial⟩), hM⟩
            · rintro a w ⟨g3156, hS, hM⟩
              unfold law23_KeyBack_j1 at hM
              refine wp_ret ?_
              injection hM with hM
              subst hM
              try simp only [Exit.then, Exit.inBlock, ↓reduceIte, Nat.reduceEqDiff]
              refine ret_ok hS Tryd.results12 (res_tmp hS rfl res_nil) ?_
              exact rfl
end Go.Proofs.YtjoilbmkcknnfaaDoor
