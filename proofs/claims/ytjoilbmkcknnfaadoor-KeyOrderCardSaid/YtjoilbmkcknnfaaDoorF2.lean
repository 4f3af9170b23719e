/- What functions of the program compute; that they do. -/
import Derived.Test.YtjoilbmkcknnfaaDoorMT
import Derived.Test.YtjoilbmkcknnfaaDoorD1
import Derived.Test.YtjoilbmkcknnfaaDoorD2
import Derived.Test.YtjoilbmkcknnfaaDoorE1
import Derived.Test.YtjoilbmkcknnfaaDoorE2
import Derived.Test.YtjoilbmkcknnfaaDoorF1
set_option linter.unusedVariables false
set_option linter.unusedSimpArgs false
namespace Go.Proofs.YtjoilbmkcknnfaaDoor
open Go.RowKit
noncomputable def law23_KeyOrder_j1 : Option Bool := (law23_awake).bind fun u4072 => some (u4072)
noncomputable def law23_KeyOrder_j2 (g4923 : (List (List KeyD))) (g4927 : Int) : Option (Fl ((List (List KeyD)) × Int) (Fl (Unit) Bool)) := some (.go (g4923, IntKind.i64.wrap (g4927 + 1)))
noncomputable def law23_KeyOrder_l3 (e6186 : (List KeyD)) (i6403 : Int) : Option (Fl (Int) (Fl (Unit) Bool)) := cond (decide ((i6403 : Int) < (e6186.length : Int))) ((getI e6186 (IntKind.i64.wrap (i6403 - 1))).bind fun e6751 => (getI e6186 i6403).bind fun e6758 => (getI e6186 (IntKind.i64.wrap (i6403 - 1))).bind fun e6765 => (getI e6186 i6403).bind fun e6772 => (key_Cmp e6751 e6758).bind fun u6779 => (ref23_Cmp e6765 e6772).bind fun u6781 => cond ((u6779 : Int) != u6781) (some (.out (.out false))) ((getI e6186 i6403).bind fun e6784 => (getI e6186 i6403).bind fun e6791 => (key_Cmp e6784 e6791).bind fun u6798 => cond ((u6798 : Int) != 0) (some (.out (.out false))) (some (.go (IntKind.i64.wrap (i6403 + 1)))))) (some (.out (.go ())))
noncomputable def law23_KeyOrder_l4 (raw_ : (List KeyD)) (u4074 : (List KeyD)) (g4923 : (List (List KeyD))) (g4927 : Int) : Option (Fl ((List (List KeyD)) × Int) (Fl (Unit) Bool)) := cond (decide ((g4927 : Int) < (([raw_, u4074]).length : Int))) ((getI g4923 g4927).bind fun e6186 => (key_Sorted e6186).bind fun u6195 => (ref23_Sorted e6186).bind fun u6198 => (ref23_SameList u6195 u6198).bind fun u6201 => cond (!(u6201)) (some (.out (.out false))) ((loop (fun s : Int => law23_KeyOrder_l3 e6186 s) 1).bind fun r => Fl.el r (fun s => law23_KeyOrder_j2 g4923 g4927) (fun y => some (.out (.out y))))) (some (.out (.go ())))
noncomputable def law23_KeyOrder (raw_ : (List KeyD)) (t_1 : (List Int)) : Option Bool := cond (decide ((60 : Int) < (raw_.length : Int))) ((law23_awake).bind fun u2371 => some (u2371)) ((mill_Light t_1).bind fun u2373 => cond (!(u2373)) ((law23_awake).bind fun u2376 => some (u2376)) ((law23_keys t_1).bind fun u4074 => (loop (fun s : (List (List KeyD)) × Int => law23_KeyOrder_l4 raw_ u4074 s.1 s.2) ([raw_, u4074], 0)).bind fun r => Fl.el r (fun s => law23_KeyOrder_j1) (fun y => some (y))))
set_option maxRecDepth 100000 in
set_option maxHeartbeats 4000000 in
theorem law23_KeyOrder_c (T : Nat → Prop) (W0 : World) (hT : ∀ k, T k → k < W0.heap.size) (hLv : LvP T W0) (raw_ : (List KeyD)) (t_1 : (List Int)) (v1 : Value) (v2 : Value) (hv1 : SlR R_KeyD T W0 v1 raw_) (hv2 : SlR (Rep.int .i64) T W0 v2 t_1) (y : Bool) (hM : law23_KeyOrder raw_ t_1 = some y) : Rets Tryd.prog No 11 [v1, v2] W0 (fun v w' => v = .bool y) := by
  refine enter (c := _) Tryd.func11 rfl T 73 Tryd.ntmps11 hT rfl fun a hS => ?_
  replace hS := hS.fact LvF (LvP.dn hLv)
  replace hS := hS.fact (SlF R_KeyD v1 raw_) (SlR.dn hv1)
  replace hS := hS.fact (SlF (Rep.int .i64) v2 t_1) (SlR.dn hv2)
  unfold law23_KeyOrder at hM
  refine wp_seq_k fun K111 hK111 => ?_
  refine r_list ?_
  refine wl rfl (ky (v := .bool false) hS (y_assign hS rfl) rfl rfl fun a hS => ?_)
  refine wpList_nil ?_
  try simp only [Exit.then, Exit.inBlock, ↓reduceIte, Nat.reduceEqDiff]
  refine hK111 _ _ ?_
  refine wp_seq_k fun K112 hK112 => ?_
  refine wp_seq_k fun K113 hK113 => ?_
  refine r_list ?_
  refine wl rfl (ky (v := v1) hS (y_move hS rfl) rfl rfl fun a hS => ?_)
  refine wl rfl (ky (v := .int .i64 (raw_.length : Int)) hS (y_len (R := R_KeyD) (xs := raw_) hS sl22 rfl 1 rfl) rfl rfl fun a hS => ?_)
  refine wl rfl (ky (v := .bool (decide ((60 : Int) < (raw_.length : Int)))) hS (y_int hS rfl rfl rfl) rfl rfl fun a hS => ?_)
  refine wl rfl (ky (v := .bool (decide ((60 : Int) < (raw_.length : Int)))) hS (y_move hS rfl) rfl rfl fun a hS => ?_)
  rcases bool2 (decide ((60 : Int) < (raw_.length : Int))) with hb2370 | hb2370
  · replace hM := ct hb2370 hM
    refine wn hS rfl rfl rfl hb2370 rfl rfl fun a hS => ?_
    refine wn hS rfl rfl rfl hb2370 rfl rfl fun a hS => ?_
    refine wn hS rfl rfl rfl hb2370 rfl rfl fun a hS => ?_
    refine wl rfl (ky (v := .bool true) hS (y_pickt hS rfl hb2370 rfl) rfl rfl fun a hS => ?_)
    refine wpList_nil ?_
    try simp only [Exit.then, Exit.inBlock, ↓reduceIte, Nat.reduceEqDiff]
    refine hK113 _ _ ?_
    refine c_t hS rfl rfl ?_
    refine wp_seq_k fun K114 hK114 => ?_
    refine r_list ?_
    obtain ⟨u2371, hu2371, hM⟩ := bd hM
    refine wl rfl (k_call hS ci14 rfl rfl (law23_awake_c _ _ hS.dlt (hS.get 2 rfl) _ hu2371) fun _ w hR a hk hA => ?_)
    have he := Eq.symm hR
    subst he
    have hS := hA [] (fun r hr => by cases hr) List.Pairwise.nil
    refine wl rfl (ky (v := .bool u2371) hS (y_assign hS rfl) rfl rfl fun a hS => ?_)
    refine wpList_nil ?_
    try simp only [Exit.then, Exit.inBlock, ↓reduceIte, Nat.reduceEqDiff]
    refine hK114 _ _ ?_
    refine wp_ret ?_
    injection hM with hM
    subst hM
    try simp only [Exit.then, Exit.inBlock, ↓reduceIte, Nat.reduceEqDiff]
    refine ret_ok hS Tryd.results11 (res_tmp hS rfl res_nil) ?_
    exact rfl
  · replace hM := cf hb2370 hM
    refine wg hS rfl rfl rfl hb2370 (ky (v := v2) hS (y_move hS rfl) rfl rfl fun a hS => ?_)
    obtain ⟨u2373, hu2373, hM⟩ := bd hM
    refine wg hS rfl rfl rfl hb2370 (k_call hS ci13 rfl rfl (mill_Light_c _ _ hS.dlt t_1 _ (hS.get 0 rfl) _ hu2373) fun _ w hR a hk hA => ?_)
    have he := Eq.symm hR
    subst he
    have hS := hA [] (fun r hr => by cases hr) List.Pairwise.nil
    refine wg hS rfl rfl rfl hb2370 (ky (v := .bool (!(u2373))) hS (y_not hS rfl) rfl rfl fun a hS => ?_)
    refine wl rfl (ky (v := .bool (!(u2373))) hS (y_pickf hS rfl hb2370 rfl) rfl rfl fun a hS => ?_)
    refine wpList_nil ?_
    try simp only [Exit.then, Exit.inBlock, ↓reduceIte, Nat.reduceEqDiff]
    refine hK113 _ _ ?_
    rcases bool2 (!(u2373)) with hb2375 | hb2375
    · replace hM := ct hb2375 hM
      refine c_t hS rfl hb2375 ?_
      refine wp_seq_k fun K115 hK115 => ?_
      refine r_list ?_
      obtain ⟨u2376, hu2376, hM⟩ := bd hM
      refine wl rfl (k_call hS ci14 rfl rfl (law23_awake_c _ _ hS.dlt (hS.get 2 rfl) _ hu2376) fun _ w hR a hk hA => ?_)
      have he := Eq.symm hR
      subst he
      have hS := hA [] (fun r hr => by cases hr) List.Pairwise.nil
      refine wl rfl (ky (v := .bool u2376) hS (y_assign hS rfl) rfl rfl fun a hS => ?_)
      refine wpList_nil ?_
      try simp only [Exit.then, Exit.inBlock, ↓reduceIte, Nat.reduceEqDiff]
      refine hK115 _ _ ?_
      refine wp_ret ?_
      injection hM with hM
      subst hM
      try simp only [Exit.then, Exit.inBlock, ↓reduceIte, Nat.reduceEqDiff]
      refine ret_ok hS Tryd.results11 (res_tmp hS rfl res_nil) ?_
      exact rfl
    · replace hM := cf hb2375 hM
      refine c_f hS rfl hb2375 ?_
      refine wp_skip ?_
      try simp only [Exit.then, Exit.inBlock, ↓reduceIte, Nat.reduceEqDiff]
      refine hK112 _ _ ?_
      refine seq_j (J := fun a w => St W0 No T 73 [] [] [LvF] a w ∧ law23_KeyOrder_j1 = some y) ?_ ?_
      · skip
        refine wp_seq_k fun K190 hK190 => ?_
        refine r_list ?_
        refine wl rfl (ky (v := v1) hS (y_move hS rfl) rfl rfl fun a hS => ?_)
        refine wl rfl (ky (v := v2) hS (y_move hS rfl) rfl rfl fun a hS => ?_)
        obtain ⟨u4074, hu4074, hM⟩ := bd hM
        refine wl rfl (k_call hS ci15 rfl rfl (law23_keys_c _ _ hS.dlt t_1 _ (hS.get 0 rfl) _ hu4074) fun _ w hR a hk hA => ?_)
        obtain ⟨vz4075_2, clz4075_3, he, ⟨hOvz4075_2, hFvz4075_2, hRvz4075_2⟩⟩ := hR
        replace he := he.symm
        subst he
        have hS := hA [.own vz4075_2 28 R_KeyD.size clz4075_3] (adds1 ⟨hOvz4075_2, by decide⟩ hFvz4075_2) (pw1 _)
        replace hS := hS.fact (RowsF R_KeyD clz4075_3 u4074) (hRvz4075_2.keep (Kt.refl _ _) (dT_dT _))
        refine wl rfl (k_bslice (ps := [(0, .tmp 17), (1, .tmp 19)]) hS el73 ze22 (zl := [.slice none 0 0, .slice none 0 0]) (by kernel_rfl) rfl (us := [[v1], [vz4075_2]]) ⟨(cells1 (SlR.one ((hS.get 2 rfl) : SlR R_KeyD _ _ _ _))), ⟨(cells1 (own_one (hS.own _ (List.mem_of_getElem? (i := 0) rfl)).1)), trivial⟩⟩ (ws := [v1, vz4075_2]) rfl rfl rfl rfl fun b4077 a w hk hS => ?_)
        replace hS := hS.freeze (R := R_KeyD) 1 rfl 0 rfl
        replace hS := hS.lit (R := (Rep.slice R_KeyD)) (us := [v1, vz4075_2]) (xs := [raw_, u4074]) 0 rfl (by decide) ((RowsOk.one_ (R := (Rep.slice R_KeyD)) (x := raw_) (⟨_, rfl, (hS.get 3 rfl)⟩)).append (RowsOk.one_ (R := (Rep.slice R_KeyD)) (x := u4074) (⟨_, rfl, (hS.get 0 rfl)⟩))) rfl rfl
        refine wl rfl (ky (v := .int .i64 (([raw_, u4074]).length : Int)) hS (y_leno (R := (Rep.slice R_KeyD)) (xs := [raw_, u4074]) hS sl73 rfl 0 rfl 0 rfl) rfl rfl fun a hS => ?_)
        refine wl rfl (ky (v := .int .i64 0) hS (y_move hS rfl) rfl rfl fun a hS => ?_)
        refine wpList_nil ?_
        try simp only [Exit.then, Exit.inBlock, ↓reduceIte, Nat.reduceEqDiff]
        refine hK190 _ _ ?_
        refine wp_block ?_
        obtain ⟨r1, hl1, hMo1⟩ := bd hM
        refine wp_lp (fun s : (List (List KeyD)) × Int => law23_KeyOrder_l4 raw_ u4074 s.1 s.2) (fun s a w => ∃ (g4923 : (List (List KeyD))) (g4927 : Int) (v4924 : Value) (cl4925 : (List Value)), (g4923, g4927) = s ∧ St W0 No T 73 [(20, v4924), (21, .int .i64 (([raw_, u4074]).length : Int)), (22, .int .i64 g4927)] [.own v4924 22 (Rep.slice R_KeyD).size cl4925] [RowsF (Rep.slice R_KeyD) cl4925 g4923, LvF] a w) hl1 ⟨([raw_, u4074]), 0, (.slice (some ⟨b4077, 0, none⟩) 2 2), ([v1, vz4075_2]), rfl, (hS.meet [0] (by decide) ⟨rfl, rfl, rfl, trivial⟩ ⟨rfl, trivial⟩ ⟨⟨0, rfl⟩, ⟨5, rfl⟩, trivial⟩)⟩ ?_
        rintro s a w f1 ⟨g4923, g4927, v4924, cl4925, rfl, hS⟩ hM hf1
        have hM : law23_KeyOrder_l4 raw_ u4074 g4923 g4927 = some f1 := hM
        unfold law23_KeyOrder_l4 at hM
        refine wp_seq_k fun K263 hK263 => ?_
        refine r_list ?_
        refine wl rfl (ky (v := .bool (decide ((g4927 : Int) < (([raw_, u4074]).length : Int)))) hS (y_int hS rfl rfl rfl) rfl rfl fun a hS => ?_)
        refine wpList_nil ?_
        try simp only [Exit.then, Exit.inBlock, ↓reduceIte, Nat.reduceEqDiff]
        refine hK263 _ _ ?_
        refine wp_seq_k fun K264 hK264 => ?_
        rcases bool2 (decide ((g4927 : Int) < (([raw_, u4074]).length : Int))) with hb5768 | hb5768
        · replace hM := ct hb5768 hM
          refine c_t hS rfl hb5768 ?_
          refine wp_skip ?_
          try simp only [Exit.then, Exit.inBlock, ↓reduceIte, Nat.reduceEqDiff]
          refine hK264 _ _ ?_
          refine seq_j (J := fun a w => St W0 No T 73 [(20, v4924), (21, .int .i64 (([raw_, u4074]).length : Int)), (22, .int .i64 g4927)] [.own v4924 22 (Rep.slice R_KeyD).size cl4925] [RowsF (Rep.slice R_KeyD) cl4925 g4923, LvF] a w ∧ law23_KeyOrder_j2 g4923 g4927 = some f1) ?_ ?_
          · skip
            refine wp_block ?_
            refine wp_seq_k fun K282 hK282 => ?_
            refine r_list ?_
            obtain ⟨e6186, he6186, hM⟩ := bd hM
            refine wl rfl (k_indexo (R := (Rep.slice R_KeyD)) hS sl73 ty22 rfl rfl 0 rfl 0 rfl he6186 rfl fun b6188 o6189 p6194 cs6191 hr6190 hO6192 hC6193 a hS => ?_)
            obtain ⟨v6187, rfl, hv6187⟩ := hr6190
            replace hS := hS.fact (SlF R_KeyD v6187 e6186) hv6187
            refine wl rfl (ky (v := v6187) hS (y_loado (k := 0) hS ty22 0 rfl hO6192 hC6193 rfl id (us := [v6187]) rfl rfl (fun _ => rfl)) rfl rfl fun a hS => ?_)
            refine wl rfl (ky (v := v6187) hS (y_assign hS rfl) rfl rfl fun a hS => ?_)
            refine wpList_nil ?_
            try simp only [Exit.then, Exit.inBlock, ↓reduceIte, Nat.reduceEqDiff]
            refine hK282 _ _ ?_
            refine wp_seq_k fun K283 hK283 => ?_
            refine wp_seq_k fun K284 hK284 => ?_
            refine r_list ?_
            refine wl rfl (ky (v := v6187) hS (y_move hS rfl) rfl rfl fun a hS => ?_)
            obtain ⟨u6195, hu6195, hM⟩ := bd hM
            refine wl rfl (k_call hS ci55 rfl rfl (key_Sorted_c _ _ hS.dlt (hS.get 2 rfl) e6186 _ (hS.get 0 rfl) _ hu6195) fun _ w hR a hk hA => ?_)
            obtain ⟨vz6196_2, clz6196_3, he, ⟨hOvz6196_2, hFvz6196_2, hRvz6196_2⟩⟩ := hR
            replace he := he.symm
            subst he
            have hS := hA [.own vz6196_2 28 R_KeyD.size clz6196_3] (adds1 ⟨hOvz6196_2, by decide⟩ hFvz6196_2) (pw1 _)
            replace hS := hS.fact (RowsF R_KeyD clz6196_3 u6195) (hRvz6196_2.keep (Kt.refl _ _) (dT_dT _))
            refine wl rfl (ky (v := v6187) hS (y_move hS rfl) rfl rfl fun a hS => ?_)
            obtain ⟨u6198, hu6198, hM⟩ := bd hM
            refine wl rfl (k_call hS ci56 rfl rfl (ref23_Sorted_c _ _ hS.dlt (hS.get 3 rfl) e6186 _ (hS.get 1 rfl) _ hu6198) fun _ w hR a hk hA => ?_)
            obtain ⟨vz6199_2, clz6199_3, he, ⟨hOvz6199_2, hFvz6199_2, hRvz6199_2⟩⟩ := hR
            replace he := he.symm
            subst he
            have hS := hA [.own vz6199_2 28 R_KeyD.size clz6199_3] (adds1 ⟨hOvz6199_2, by decide⟩ hFvz6199_2) (pw1 _)
            replace hS := hS.fact (RowsF R_KeyD clz6199_3 u6198) (hRvz6199_2.keep (Kt.refl _ _) (dT_dT _))
            have hL := hS
            replace hL := hL.freeze (R := R_KeyD) 1 rfl 1 rfl
            replace hL := hL.freeze (R := R_KeyD) 0 rfl 1 rfl
            obtain ⟨u6201, hu6201, hM⟩ := bd hM
            refine wl rfl (k_call hS ci53 rfl rfl (ref23_SameList_c _ _ hL.dlt u6195 u6198 _ _ (hL.get 1 rfl) (hL.get 0 rfl) _ hu6201) fun _ w hR a hk hA => ?_)
            have he := Eq.symm hR
            subst he
            have hS := hA [] (fun r hr => by cases hr) List.Pairwise.nil
            refine wl rfl (ky (v := .bool (!(u6201))) hS (y_not hS rfl) rfl rfl fun a hS => ?_)
            refine wpList_nil ?_
            try simp only [Exit.then, Exit.inBlock, ↓reduceIte, Nat.reduceEqDiff]
            refine hK284 _ _ ?_
            rcases bool2 (!(u6201)) with hb6203 | hb6203
            · replace hM := ct hb6203 hM
              refine c_t hS rfl hb6203 ?_
              refine wp_seq_k fun K285 hK285 => ?_
              refine r_list ?_
              refine wl rfl (ky (v := .bool false) hS (y_assign hS rfl) rfl rfl fun a hS => ?_)
              refine wpList_nil ?_
              try simp only [Exit.then, Exit.inBlock, ↓reduceIte, Nat.reduceEqDiff]
              refine hK285 _ _ ?_
              refine wp_ret ?_
              injection hM with hM
              subst hM
              have hr := hf1 _ rfl
              subst hr
              replace hMo1 := el_out hMo1
              have hM := hMo1
              injection hM with hM
              subst hM
              try simp only [Exit.then, Exit.inBlock, ↓reduceIte, Nat.reduceEqDiff]
              refine ret_ok hS Tryd.results11 (res_tmp hS rfl res_nil) ?_
              exact rfl
            · replace hM := cf hb6203 hM
              refine c_f hS rfl hb6203 ?_
              refine wp_skip ?_
              try simp only [Exit.then, Exit.inBlock, ↓reduceIte, Nat.reduceEqDiff]
              refine hK283 _ _ ?_
              refine wp_seq_k fun K286 hK286 => ?_
              refine r_list ?_
              refine wl rfl (ky (v := .int .i64 1) hS (y_assign hS rfl) rfl rfl fun a hS => ?_)
              refine wpList_nil ?_
              try simp only [Exit.then, Exit.inBlock, ↓reduceIte, Nat.reduceEqDiff]
              refine hK286 _ _ ?_
              refine wp_block ?_
              obtain ⟨r2, hl2, hMo2⟩ := bd hM
              refine wp_lp (fun s : Int => law23_KeyOrder_l3 e6186 s) (fun s a w => ∃ (i6403 : Int), i6403 = s ∧ St W0 No T 73 [(6, v6187), (7, .int .i64 i6403), (20, v4924), (21, .int .i64 (([raw_, u4074]).length : Int)), (22, .int .i64 g4927)] [.own v4924 22 (Rep.slice R_KeyD).size cl4925] [SlF R_KeyD v6187 e6186, RowsF (Rep.slice R_KeyD) cl4925 g4923, LvF] a w) hl2 ⟨1, rfl, (hS.meet [2] (by decide) ⟨rfl, rfl, rfl, rfl, rfl, trivial⟩ ⟨rfl, trivial⟩ ⟨⟨2, rfl⟩, ⟨3, rfl⟩, ⟨4, rfl⟩, trivial⟩)⟩ ?_
              rintro s a w f2 ⟨i6403, rfl, hS⟩ hM hf2
              have hM : law23_KeyOrder_l3 e6186 i6403 = some f2 := hM
              unfold law23_KeyOrder_l3 at hM
              refine wp_seq_k fun K299 hK299 => ?_
              refine wp_seq_k fun K300 hK300 => ?_
              refine r_list ?_
              refine wl rfl (ky (v := .int .i64 i6403) hS (y_move hS rfl) rfl rfl fun a hS => ?_)
              refine wl rfl (ky (v := v6187) hS (y_move hS rfl) rfl rfl fun a hS => ?_)
              refine wl rfl (ky (v := .int .i64 (e6186.length : Int)) hS (y_len (R := R_KeyD) (xs := e6186) hS sl22 rfl 0 rfl) rfl rfl fun a hS => ?_)
              refine wl rfl (ky (v := .bool (decide ((i6403 : Int) < (e6186.length : Int)))) hS (y_int hS rfl rfl rfl) rfl rfl fun a hS => ?_)
              refine wpList_nil ?_
              try simp only [Exit.then, Exit.inBlock, ↓reduceIte, Nat.reduceEqDiff]
              refine hK300 _ _ ?_
              rcases bool2 (decide ((i6403 : Int) < (e6186.length : Int))) with hb6603 | hb6603
              · replace hM := ct hb6603 hM
                refine c_t hS rfl hb6603 ?_
                refine wp_skip ?_
                try simp only [Exit.then, Exit.inBlock, ↓reduceIte, Nat.reduceEqDiff]
                refine hK299 _ _ ?_
                refine wp_seq_k fun K301 hK301 => ?_
                refine wp_block ?_
                refine wp_seq_k fun K302 hK302 => ?_
                refine draws [] hS mixed rfl (fun c a d v w h => by cases d <;> exact h) fun w hQ hS => ?_
                refine dy 0 (v := v6187) rfl (by kernel_rfl) (by kernel_rfl) (by kernel_rfl) rfl hQ hS (y_move hS rfl) rfl rfl rfl fun a hS => ?_
                refine dy 1 (v := .int .i64 i6403) rfl (by kernel_rfl) (by kernel_rfl) (by kernel_rfl) rfl hQ hS (y_move hS rfl) rfl rfl rfl fun a hS => ?_
                refine dy 2 (v := .int .i64 (IntKind.i64.wrap (i6403 - 1))) rfl (by kernel_rfl) (by kernel_rfl) (by kernel_rfl) rfl hQ hS (y_int hS rfl rfl rfl) rfl rfl rfl fun a hS => ?_
                obtain ⟨e6751, he6751, hM⟩ := bd hM
                obtain ⟨b6752, o6753, cs6755, hr6754, hy6757, hS⟩ := d_index (R := R_KeyD) hS sl22 ty28 0 rfl he6751
                obtain rfl := hr6754
                refine dy 3 (v := .pointer (some ⟨b6752, o6753, none⟩)) rfl (by kernel_rfl) (by kernel_rfl) (by kernel_rfl) rfl hQ hS (hy6757 rfl rfl) rfl rfl rfl fun a hS => ?_
                refine dy (l := []) 4 (v := .agg #[.int .i64 e6751.Kind, .string e6751.Text]) rfl (by kernel_rfl) (by kernel_rfl) (by kernel_rfl) (by kernel_rfl) hQ hS (y_loadc (k := 0) hS ty28 0 rfl rfl es_nil (us := [.int .i64 e6751.Kind, .string e6751.Text]) rfl rfl (fun h => by cases h)) rfl rfl rfl fun a hS => ?_
                refine dy 5 (v := v6187) rfl (by kernel_rfl) (by kernel_rfl) (by kernel_rfl) rfl hQ hS (y_move hS rfl) rfl rfl rfl fun a hS => ?_
                refine dy 6 (v := .int .i64 i6403) rfl (by kernel_rfl) (by kernel_rfl) (by kernel_rfl) rfl hQ hS (y_move hS rfl) rfl rfl rfl fun a hS => ?_
                obtain ⟨e6758, he6758, hM⟩ := bd hM
                obtain ⟨b6759, o6760, cs6762, hr6761, hy6764, hS⟩ := d_index (R := R_KeyD) hS sl22 ty28 1 rfl he6758
                obtain rfl := hr6761
                refine dy 7 (v := .pointer (some ⟨b6759, o6760, none⟩)) rfl (by kernel_rfl) (by kernel_rfl) (by kernel_rfl) rfl hQ hS (hy6764 rfl rfl) rfl rfl rfl fun a hS => ?_
                refine dy (l := []) 8 (v := .agg #[.int .i64 e6758.Kind, .string e6758.Text]) rfl (by kernel_rfl) (by kernel_rfl) (by kernel_rfl) (by kernel_rfl) hQ hS (y_loadc (k := 0) hS ty28 0 rfl rfl es_nil (us := [.int .i64 e6758.Kind, .string e6758.Text]) rfl rfl (fun h => by cases h)) rfl rfl rfl fun a hS => ?_
                refine dy 10 (v := v6187) rfl (by kernel_rfl) (by kernel_rfl) (by kernel_rfl) rfl hQ hS (y_move hS rfl) rfl rfl rfl fun a hS => ?_
                refine dy 11 (v := .int .i64 i6403) rfl (by kernel_rfl) (by kernel_rfl) (by kernel_rfl) rfl hQ hS (y_move hS rfl) rfl rfl rfl fun a hS => ?_
                refine dy 12 (v := .int .i64 (IntKind.i64.wrap (i6403 - 1))) rfl (by kernel_rfl) (by kernel_rfl) (by kernel_rfl) rfl hQ hS (y_int hS rfl rfl rfl) rfl rfl rfl fun a hS => ?_
                obtain ⟨e6765, he6765, hM⟩ := bd hM
                obtain ⟨b6766, o6767, cs6769, hr6768, hy6771, hS⟩ := d_index (R := R_KeyD) hS sl22 ty28 2 rfl he6765
                obtain rfl := hr6768
                refine dy 13 (v := .pointer (some ⟨b6766, o6767, none⟩)) rfl (by kernel_rfl) (by kernel_rfl) (by kernel_rfl) rfl hQ hS (hy6771 rfl rfl) rfl rfl rfl fun a hS => ?_
                refine dy (l := []) 14 (v := .agg #[.int .i64 e6765.Kind, .string e6765.Text]) rfl (by kernel_rfl) (by kernel_rfl) (by kernel_rfl) (by kernel_rfl) hQ hS (y_loadc (k := 0) hS ty28 0 rfl rfl es_nil (us := [.int .i64 e6765.Kind, .string e6765.Text]) rfl rfl (fun h => by cases h)) rfl rfl rfl fun a hS => ?_
                refine dy 15 (v := v6187) rfl (by kernel_rfl) (by kernel_rfl) (by kernel_rfl) rfl hQ hS (y_move hS rfl) rfl rfl rfl fun a hS => ?_
                refine dy 16 (v := .int .i64 i6403) rfl (by kernel_rfl) (by kernel_rfl) (by kernel_rfl) rfl hQ hS (y_move hS rfl) rfl rfl rfl fun a hS => ?_
                obtain ⟨e6772, he6772, hM⟩ := bd hM
                obtain ⟨b6773, o6774, cs6776, hr6775, hy6778, hS⟩ := d_index (R := R_KeyD) hS sl22 ty28 3 rfl he6772
                obtain rfl := hr6775
                refine dy 17 (v := .pointer (some ⟨b6773, o6774, none⟩)) rfl (by kernel_rfl) (by kernel_rfl) (by kernel_rfl) rfl hQ hS (hy6778 rfl rfl) rfl rfl rfl fun a hS => ?_
                refine dy (l := []) 18 (v := .agg #[.int .i64 e6772.Kind, .string e6772.Text]) rfl (by kernel_rfl) (by kernel_rfl) (by kernel_rfl) (by kernel_rfl) hQ hS (y_loadc (k := 0) hS ty28 0 rfl rfl es_nil (us := [.int .i64 e6772.Kind, .string e6772.Text]) rfl rfl (fun h => by cases h)) rfl rfl rfl fun a hS => ?_
                obtain ⟨u6779, hu6779, hM⟩ := bd hM
                refine wpE_one (i := 9) rfl (by kernel_rfl) rfl (k_call hS ci57 rfl rfl (key_Cmp_c _ _ hS.dlt (hS.get 6 rfl) e6751 e6758 _ hu6779) fun _ w hR a hk hA => ⟨stN (hk), ?_⟩)
                have he := Eq.symm hR
                subst he
                have hS := hA [] (fun r hr => by cases hr) List.Pairwise.nil
                obtain ⟨u6781, hu6781, hM⟩ := bd hM
                refine wpE_one (i := 19) rfl (by kernel_rfl) rfl (k_call hS ci58 rfl rfl (ref23_Cmp_c _ _ hS.dlt (hS.get 6 rfl) e6765 e6772 _ hu6781) fun _ w hR a hk hA => ⟨stN (hk), ?_⟩)
                have he := Eq.symm hR
                subst he
                have hS := hA [] (fun r hr => by cases hr) List.Pairwise.nil
                refine dy 20 (v := .bool ((u6779 : Int) != u6781)) rfl (by kernel_rfl) (by kernel_rfl) (by kernel_rfl) rfl hQ hS (y_int hS rfl rfl rfl) rfl rfl rfl fun a hS => ?_
                refine dy 21 (v := .bool ((u6779 : Int) != u6781)) rfl (by kernel_rfl) (by kernel_rfl) (by kernel_rfl) rfl hQ hS (y_move hS rfl) rfl rfl rfl fun a hS => ?_
                rcases bool2 ((u6779 : Int) != u6781) with hb6783 | hb6783
                · replace hM := ct hb6783 hM
                  refine dyn 22 rfl (by kernel_rfl) (by kernel_rfl) (by kernel_rfl) hQ hS rfl rfl rfl hb6783 rfl rfl fun a hS => ?_
                  refine dyn 23 rfl (by kernel_rfl) (by kernel_rfl) (by kernel_rfl) hQ hS rfl rfl rfl hb6783 rfl rfl fun a hS => ?_
                  refine dyn 24 rfl (by kernel_rfl) (by kernel_rfl) (by kernel_rfl) hQ hS rfl rfl rfl hb6783 rfl rfl fun a hS => ?_
                  refine dyn 25 rfl (by kernel_rfl) (by kernel_rfl) (by kernel_rfl) hQ hS rfl rfl rfl hb6783 rfl rfl fun a hS => ?_
                  refine dyn 26 rfl (by kernel_rfl) (by kernel_rfl) (by kernel_rfl) hQ hS rfl rfl rfl hb6783 rfl rfl fun a hS => ?_
                  refine dyn 27 rfl (by kernel_rfl) (by kernel_rfl) (by kernel_rfl) hQ hS rfl rfl rfl hb6783 rfl rfl fun a hS => ?_
                  refine dyn 28 rfl (by kernel_rfl) (by kernel_rfl) (by kernel_rfl) hQ hS rfl rfl rfl hb6783 rfl rfl fun a hS => ?_
                  refine dyn 29 rfl (by kernel_rfl) (by kernel_rfl) (by kernel_rfl) hQ hS rfl rfl rfl hb6783 rfl rfl fun a hS => ?_
                  refine dyn 30 rfl (by kernel_rfl) (by kernel_rfl) (by kernel_rfl) hQ hS rfl rfl rfl hb6783 rfl rfl fun a hS => ?_
                  refine dyn 31 rfl (by kernel_rfl) (by kernel_rfl) (by kernel_rfl) hQ hS rfl rfl rfl hb6783 rfl rfl fun a hS => ?_
                  refine dy 32 (v := .bool true) rfl (by kernel_rfl) (by kernel_rfl) (by kernel_rfl) rfl hQ hS (y_pickt hS rfl hb6783 rfl) rfl rfl rfl fun a hS => ?_
                  refine wpE_done (by kernel_rfl) ?_ _
                  try simp only [Exit.then, Exit.inBlock, ↓reduceIte, Nat.reduceEqDiff]
                  refine hK302 _ _ ?_
                  refine c_t hS rfl rfl ?_
                  refine wp_seq_k fun K303 hK303 => ?_
                  refine r_list ?_
                  refine wl rfl (ky (v := .bool false) hS (y_assign hS rfl) rfl rfl fun a hS => ?_)
                  refine wpList_nil ?_
                  try simp only [Exit.then, Exit.inBlock, ↓reduceIte, Nat.reduceEqDiff]
                  refine hK303 _ _ ?_
                  refine wp_ret ?_
                  injection hM with hM
                  subst hM
                  have hr := hf2 _ rfl
                  subst hr
                  replace hMo2 := el_out hMo2
                  have hM := hMo2
                  injection hM with hM
                  subst hM
                  have hr := hf1 _ rfl
                  subst hr
                  replace hMo1 := el_out hMo1
                  have hM := hMo1
                  injection hM with hM
                  subst hM
                  try simp only [Exit.then, Exit.inBlock, ↓reduceIte, Nat.reduceEqDiff]
                  refine ret_ok hS Tryd.results11 (res_tmp hS rfl res_nil) ?_
                  exact rfl
                · replace hM := cf hb6783 hM
                  refine dyg 22 (v := v6187) rfl (by kernel_rfl) (by kernel_rfl) (by kernel_rfl) rfl hQ hS (y_move hS rfl) rfl rfl rfl hb6783 rfl rfl fun a hS => ?_
                  refine dyg 23 (v := .int .i64 i6403) rfl (by kernel_rfl) (by kernel_rfl) (by kernel_rfl) rfl hQ hS (y_move hS rfl) rfl rfl rfl hb6783 rfl rfl fun a hS => ?_
                  obtain ⟨e6784, he6784, hM⟩ := bd hM
                  obtain ⟨b6785, o6786, cs6788, hr6787, hy6790, hS⟩ := d_index (R := R_KeyD) hS sl22 ty28 4 rfl he6784
                  obtain rfl := hr6787
                  refine dyg 24 (v := .pointer (some ⟨b6785, o6786, none⟩)) rfl (by kernel_rfl) (by kernel_rfl) (by kernel_rfl) rfl hQ hS (hy6790 rfl rfl) rfl rfl rfl hb6783 rfl rfl fun a hS => ?_
                  refine dyg (l := []) 25 (v := .agg #[.int .i64 e6784.Kind, .string e6784.Text]) rfl (by kernel_rfl) (by kernel_rfl) (by kernel_rfl) (by kernel_rfl) hQ hS (y_loadc (k := 0) hS ty28 0 rfl rfl es_nil (us := [.int .i64 e6784.Kind, .string e6784.Text]) rfl rfl (fun h => by cases h)) rfl rfl rfl hb6783 rfl rfl fun a hS => ?_
                  refine dyg 26 (v := v6187) rfl (by kernel_rfl) (by kernel_rfl) (by kernel_rfl) rfl hQ hS (y_move hS rfl) rfl rfl rfl hb6783 rfl rfl fun a hS => ?_
                  refine dyg 27 (v := .int .i64 i6403) rfl (by kernel_rfl) (by kernel_rfl) (by kernel_rfl) rfl hQ hS (y_move hS rfl) rfl rfl rfl hb6783 rfl rfl fun a hS => ?_
                  obtain ⟨e6791, he6791, hM⟩ := bd hM
                  obtain ⟨b6792, o6793, cs6795, hr6794, hy6797, hS⟩ := d_index (R := R_KeyD) hS sl22 ty28 5 rfl he6791
                  obtain rfl := hr6794
                  refine dyg 28 (v := .pointer (some ⟨b6792, o6793, none⟩)) rfl (by kernel_rfl) (by kernel_rfl) (by kernel_rfl) rfl hQ hS (hy6797 rfl rfl) rfl rfl rfl hb6783 rfl rfl fun a hS => ?_
                  refine dyg (l := []) 29 (v := .agg #[.int .i64 e6791.Kind, .string e6791.Text]) rfl (by kernel_rfl) (by kernel_rfl) (by kernel_rfl) (by kernel_rfl) hQ hS (y_loadc (k := 0) hS ty28 0 rfl rfl es_nil (us := [.int .i64 e6791.Kind, .string e6791.Text]) rfl rfl (fun h => by cases h)) rfl rfl rfl hb6783 rfl rfl fun a hS => ?_
                  obtain ⟨u6798, hu6798, hM⟩ := bd hM
                  refine wpE_oneg (i := 30) rfl (by kernel_rfl) hS rfl rfl rfl hb6783 (k_call hS ci57 rfl rfl (key_Cmp_c _ _ hS.dlt (hS.get 8 rfl) e6784 e6791 _ hu6798) fun _ w hR a hk hA => ⟨stN (hk), ?_⟩)
                  have he := Eq.symm hR
                  subst he
                  have hS := hA [] (fun r hr => by cases hr) List.Pairwise.nil
                  refine dyg 31 (v := .bool ((u6798 : Int) != 0)) rfl (by kernel_rfl) (by kernel_rfl) (by kernel_rfl) rfl hQ hS (y_int hS rfl rfl rfl) rfl rfl rfl hb6783 rfl rfl fun a hS => ?_
                  refine dy 32 (v := .bool ((u6798 : Int) != 0)) rfl (by kernel_rfl) (by kernel_rfl) (by kernel_rfl) rfl hQ hS (y_pickf hS rfl hb6783 rfl) rfl rfl rfl fun a hS => ?_
                  refine wpE_done (by kernel_rfl) ?_ _
                  try simp only [Exit.then, Exit.inBlock, ↓reduceIte, Nat.reduceEqDiff]
                  refine hK302 _ _ ?_
                  rcases bool2 ((u6798 : Int) != 0) with hb6800 | hb6800
                  · replace hM := ct hb6800 hM
                    refine c_t hS rfl hb6800 ?_
                    refine wp_seq_k fun K304 hK304 => ?_
                    refine r_list ?_
                    refine wl rfl (ky (v := .bool false) hS (y_assign hS rfl) rfl rfl fun a hS => ?_)
                    refine wpList_nil ?_
                    try simp only [Exit.then, Exit.inBlock, ↓reduceIte, Nat.reduceEqDiff]
                    refine hK304 _ _ ?_
                    refine wp_ret ?_
                    injection hM with hM
                    subst hM
                    have hr := hf2 _ rfl
                    subst hr
                    replace hMo2 := el_out hMo2
                    have hM := hMo2
                    injection hM with hM
                    subst hM
                    have hr := hf1 _ rfl
                    subst hr
                    replace hMo1 := el_out hMo1
                    have hM := hMo1
                    injection hM with hM
                    subst hM
                    try simp only [Exit.then, Exit.inBlock, ↓reduceIte, Nat.reduceEqDiff]
                    refine ret_ok hS Tryd.results11 (res_tmp hS rfl res_nil) ?_
                    exact rfl
                  · replace hM := cf hb6800 hM
                    refine c_f hS rfl hb6800 ?_
                    refine wp_skip ?_
                    try simp only [Exit.then, Exit.inBlock, ↓reduceIte, Nat.reduceEqDiff]
                    refine hK301 _ _ ?_
                    refine r_list ?_
                    refine wl rfl (ky (v := .int .i64 i6403) hS (y_move hS rfl) rfl rfl fun a hS => ?_)
                    refine wl rfl (ky (v := .int .i64 (IntKind.i64.wrap (i6403 + 1))) hS (y_int hS rfl rfl rfl) rfl rfl fun a hS => ?_)
                    refine wl rfl (ky (v := .int .i64 (IntKind.i64.wrap (i6403 + 1))) hS (y_assign hS rfl) rfl rfl fun a hS => ?_)
                    refine wpList_nil ?_
                    try simp only [Exit.then, Exit.inBlock, ↓reduceIte, Nat.reduceEqDiff]
                    exact ⟨IntKind.i64.wrap (i6403 + 1), (Option.some.inj hM).symm, (IntKind.i64.wrap (i6403 + 1)), rfl, (hS.meet [0] (by decide) ⟨rfl, rfl, rfl, rfl, rfl, trivial⟩ ⟨rfl, trivial⟩ ⟨⟨6, rfl⟩, ⟨7, rfl⟩, ⟨8, rfl⟩, trivial⟩)⟩
              · replace hM := cf hb6603 hM
                refine c_f hS rfl hb6603 ?_
                refine wp_exit ?_
                try simp only [Exit.then, Exit.inBlock, ↓reduceIte, Nat.reduceEqDiff]
                injection hM with hM
                subst hM
                have hr := hf2 _ rfl
                subst hr
                replace hMo2 := el_go hMo2
                have hM : law23_KeyOrder_j2 g4923 g4927 = some f1 := hMo2
                exact ⟨(hS.meet [0] (by decide) ⟨rfl, rfl, rfl, trivial⟩ ⟨rfl, trivial⟩ ⟨⟨1, rfl⟩, ⟨2, rfl⟩, trivial⟩), hM⟩
          · rintro a w ⟨hS, hM⟩
            unfold law23_KeyOrder_j2 at hM
            refine r_list ?_
            refine wl rfl (ky (v := .int .i64 (IntKind.i64.wrap (g4927 + 1))) hS (y_int hS rfl rfl rfl) rfl rfl fun a hS => ?_)
            refine wl rfl (ky (v := .int .i64 (IntKind.i64.wrap (g4927 + 1))) hS (y_move hS rfl) rfl rfl fun a hS => ?_)
            refine wpList_nil ?_
            try simp only [Exit.then, Exit.inBlock, ↓reduceIte, Nat.reduceEqDiff]
            exact ⟨(g4923, IntKind.i64.wrap (g4927 + 1)), (Option.some.inj hM).symm, g4923, (IntKind.i64.wrap (g4927 + 1)), v4924, cl4925, rfl, (hS.meet [0] (by decide) ⟨rfl, rfl, rfl, trivial⟩ ⟨rfl, trivial⟩ ⟨⟨0, rfl⟩, ⟨1, rfl⟩, trivial⟩)⟩
        · replace hM := cf hb5768 hM
          refine c_f hS rfl hb5768 ?_
          refine wp_exit ?_
          try simp only [Exit.then, Exit.inBlock, ↓reduceIte, Nat.reduceEqDiff]
          injection hM with hM
          subst hM
          have hr := hf1 _ rfl
          subst hr
          replace hMo1 := el_go hMo1
          have hM : law23_KeyOrder_j1 = some y := hMo1
          exact ⟨(hS.meet [] (by decide) trivial trivial ⟨⟨1, rfl⟩, trivial⟩), hM⟩
      · rintro a w ⟨hS, hM⟩
        unfold law23_KeyOrder_j1 at hM
        refine wp_seq_k fun K189 hK189 => ?_
        refine r_list ?_
        obtain ⟨u4072, hu4072, hM⟩ := bd hM
        refine wl rfl (k_call hS ci14 rfl rfl (law23_awake_c _ _ hS.dlt (hS.get 0 rfl) _ hu4072) fun _ w hR a hk hA => ?_)
        have he := Eq.symm hR
        subst he
        have hS := hA [] (fun r hr => by cases hr) List.Pairwise.nil
        refine wl rfl (ky (v := .bool u4072) hS (y_assign hS rfl) rfl rfl fun a hS => ?_)
        refine wpList_nil ?_
        try simp only [Exit.then, Exit.inBlock, ↓reduceIte, Nat.reduceEqDiff]
        refine hK189 _ _ ?_
        refine wp_ret ?_
        injection hM with hM
        subst hM
        try simp only [Exit.then, Exit.inBlock, ↓reduceIte, Nat.reduceEqDiff]
        refine ret_ok hS Tryd.results11 (res_tmp hS rfl res_nil) ?_
        exact rfl
end Go.Proofs.YtjoilbmkcknnfaaDoor
