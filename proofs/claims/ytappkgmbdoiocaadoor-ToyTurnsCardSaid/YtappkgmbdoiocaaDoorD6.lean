/- What functions of the program compute; that they do. -/
import Derived.Test.YtappkgmbdoiocaaDoorTD6
set_option linter.unusedVariables false
set_option linter.unusedSimpArgs false
namespace Go.Proofs.YtappkgmbdoiocaaDoor
open Go.RowKit
noncomputable def law24_ToyTurns_j1 : Option Bool := (law24_awake).bind fun u3732 => some (u3732)
noncomputable def law24_ToyTurns_l2 (answers_ : (List ByteArray)) (near2552 : (List ByteArray)) (g3753 : Int) : Option (Fl (Int) (Fl (Unit) Bool)) := cond (decide ((g3753 : Int) < ((near2552 ++ answers_).length : Int))) ((getI (near2552 ++ answers_) g3753).bind fun e3770 => (toy_Value e3770).bind fun u3778 => (ref24_Value e3770).bind fun u3780 => cond ((u3778 : Int) != u3780) (some (.out (.out false))) (some (.go (IntKind.i64.wrap (g3753 + 1))))) (some (.out (.go ())))
noncomputable def law24_ToyTurns_j3 (answers_ : (List ByteArray)) (near2552 : (List ByteArray)) : Option Bool := gd (roomB (near2552.length + answers_.length)) <| (loop (fun s : Int => law24_ToyTurns_l2 answers_ near2552 s) 0).bind fun r => Fl.el r (fun s => law24_ToyTurns_j1) (fun y => some (y))
noncomputable def law24_ToyTurns_j4 (g4381 : (List KeyD)) (g4385 : Int) : Option (Fl ((List KeyD) × Int) (Fl (Unit) Bool)) := some (.go (g4381, IntKind.i64.wrap (g4385 + 1)))
noncomputable def law24_ToyTurns_j5 (answers_ : (List ByteArray)) (u2502 : ((List RuleD) × DiceD)) (g4381 : (List KeyD)) (g4385 : Int) (e5191 : KeyD) : Option (Fl ((List KeyD) × Int) (Fl (Unit) Bool)) := (toy_Turn u2502.1 e5191 answers_).bind fun u5333 => (ref24_Turn u2502.1 e5191 answers_).bind fun u5335 => cond (!(u5333.Done == u5335.Done && u5333.Value.toList == u5335.Value.toList && (u5333.Ask.Kind : Int) == u5335.Ask.Kind && u5333.Ask.Text.toList == u5335.Ask.Text.toList)) (some (.out (.out false))) (law24_ToyTurns_j4 g4381 g4385)
noncomputable def law24_ToyTurns_l6 (u2502 : ((List RuleD) × DiceD)) (near2552 : (List ByteArray)) (e5191 : KeyD) (g5397 : Int) : Option (Fl (Int) (Fl (Unit) Bool)) := cond (decide ((g5397 : Int) < (IntKind.i64.wrap ((near2552.length : Int) + 1)))) ((subI near2552 0 g5397).bind fun l5500 => (subI near2552 0 g5397).bind fun l5505 => (toy_Turn u2502.1 e5191 l5500).bind fun u5510 => (ref24_Turn u2502.1 e5191 l5505).bind fun u5512 => cond (!(u5510.Done == u5512.Done && u5510.Value.toList == u5512.Value.toList && (u5510.Ask.Kind : Int) == u5512.Ask.Kind && u5510.Ask.Text.toList == u5512.Ask.Text.toList)) (some (.out (.out false))) (some (.go (IntKind.i64.wrap (g5397 + 1))))) (some (.out (.go ())))
noncomputable def law24_ToyTurns_l7 (answers_ : (List ByteArray)) (k_3 : KeyD) (u2502 : ((List RuleD) × DiceD)) (near2552 : (List ByteArray)) (u3827 : KeyD) (u3831 : ByteArray) (u3835 : ByteArray) (g4381 : (List KeyD)) (g4385 : Int) : Option (Fl ((List KeyD) × Int) (Fl (Unit) Bool)) := cond (decide ((g4385 : Int) < (([k_3, u3827, (KeyD.mk 31 u3831), (KeyD.mk 32 u3835)]).length : Int))) ((getI g4381 g4385).bind fun e5191 => (loop (fun s : Int => law24_ToyTurns_l6 u2502 near2552 e5191 s) 0).bind fun r => Fl.el r (fun s => law24_ToyTurns_j5 answers_ u2502 g4381 g4385 e5191) (fun y => some (.out (.out y)))) (some (.out (.go ())))
noncomputable def law24_ToyTurns_j8 (answers_ : (List ByteArray)) (n_2 : Int) (k_3 : KeyD) (u2502 : ((List RuleD) × DiceD)) (near2552 : (List ByteArray)) : Option Bool := (mill_Mod n_2 (u2502.1.length : Int)).bind fun u3825 => (ref23_Of u2502.1 u3825).bind fun u3827 => (mill_Mod n_2 10).bind fun u3829 => (itoaM u3829).bind fun u3831 => (mill_Mod n_2 10).bind fun u3833 => (itoaM u3833).bind fun u3835 => (loop (fun s : (List KeyD) × Int => law24_ToyTurns_l7 answers_ k_3 u2502 near2552 u3827 u3831 u3835 s.1 s.2) ([k_3, u3827, (KeyD.mk 31 u3831), (KeyD.mk 32 u3835)], 0)).bind fun r => Fl.el r (fun s => law24_ToyTurns_j3 answers_ near2552) (fun y => some (y))
noncomputable def law24_ToyTurns_l9 (near5535 : (List ByteArray)) (g5539 : Int) (g5540 : (List Int)) (g5542 : Int) : Option (Fl ((List ByteArray) × Int × (List Int) × Int) ((List ByteArray))) := cond (decide ((g5539 : Int) < 7)) ((dice_Word (DiceD.mk g5540 g5542) ([(ByteArray.mk #[48]), (ByteArray.mk #[49]), (ByteArray.mk #[50]), (ByteArray.mk #[53]), (ByteArray.mk #[57, 57, 57]), (ByteArray.mk #[54, 53, 53, 51, 53]), (ByteArray.mk #[54, 53, 53, 51, 54]), (ByteArray.mk #[]), (ByteArray.mk #[120]), (ByteArray.mk #[48, 49])])).bind fun u5566 => gd (roomB (near5535.length + ([u5566.1]).length)) <| some (.go ((near5535 ++ ([u5566.1])), IntKind.i64.wrap (g5539 + 1), u5566.2.L, u5566.2.At))) (some (.out near5535))
noncomputable def law24_ToyTurns (t_0 : (List Int)) (answers_ : (List ByteArray)) (n_2 : Int) (k_3 : KeyD) : Option Bool := cond (decide ((20 : Int) < (answers_.length : Int))) ((law24_awake).bind fun u2492 => some (u2492)) ((mill_Light t_0).bind fun u2494 => cond (!(u2494)) ((law24_awake).bind fun u2497 => some (u2497)) ((mill_Roll t_0).bind fun u2499 => (mill_Rules u2499).bind fun u2502 => (loop (fun s : (List ByteArray) × Int × (List Int) × Int => law24_ToyTurns_l9 s.1 s.2.1 s.2.2.1 s.2.2.2) (([] : List ByteArray), 0, u2502.2.L, u2502.2.At)).bind fun r => law24_ToyTurns_j8 answers_ n_2 k_3 u2502 r))
set_option maxRecDepth 100000 in
set_option maxHeartbeats 4000000 in
theorem law24_ToyTurns_c (T : Nat → Prop) (W0 : World) (hT : ∀ k, T k → k < W0.heap.size) (hLv : LvP T W0) (t_0 : (List Int)) (answers_ : (List ByteArray)) (n_2 : Int) (k_3 : KeyD) (v1 : Value) (v2 : Value) (hv1 : SlR (Rep.int .i64) T W0 v1 t_0) (hv2 : SlR Rep.str T W0 v2 answers_) (y : Bool) (hM : law24_ToyTurns t_0 answers_ n_2 k_3 = some y) : Rets Tryd.prog No 8 [v1, v2, .int .i64 n_2, .agg #[.int .i64 k_3.Kind, .string k_3.Text]] W0 (fun v w' => v = .bool y) := by
  refine enter (c := _) Tryd.func8 rfl T 105 Tryd.ntmps8 hT rfl fun a hS => ?_
  replace hS := hS.fact LvF (LvP.dn hLv)
  replace hS := hS.fact (SlF (Rep.int .i64) v1 t_0) (SlR.dn hv1)
  replace hS := hS.fact (SlF Rep.str v2 answers_) (SlR.dn hv2)
  unfold law24_ToyTurns at hM
  refine wp_seq_k fun K292 hK292 => ?_
  refine r_list ?_
  refine wl rfl (k_box hS rfl (cs := [.int .i64 k_3.Kind, .string k_3.Text]) rfl rfl fun b2485 hnb2487 a w hk hS => ?_)
  refine wl rfl (ky (v := .bool false) hS (y_assign hS rfl) rfl rfl fun a hS => ?_)
  refine wpList_nil ?_
  try simp only [Exit.then, Exit.inBlock, ↓reduceIte, Nat.reduceEqDiff]
  refine hK292 _ _ ?_
  refine wp_seq_k fun K293 hK293 => ?_
  refine wp_seq_k fun K294 hK294 => ?_
  refine r_list ?_
  refine wl rfl (ky (v := v2) hS (y_move hS rfl) rfl rfl fun a hS => ?_)
  refine wl rfl (ky (v := .int .i64 (answers_.length : Int)) hS (y_len (R := Rep.str) (xs := answers_) hS sl65 rfl 0 rfl) rfl rfl fun a hS => ?_)
  refine wl rfl (ky (v := .bool (decide ((20 : Int) < (answers_.length : Int)))) hS (y_int hS rfl rfl rfl) rfl rfl fun a hS => ?_)
  refine wl rfl (ky (v := .bool (decide ((20 : Int) < (answers_.length : Int)))) hS (y_move hS rfl) rfl rfl fun a hS => ?_)
  rcases bool2 (decide ((20 : Int) < (answers_.length : Int))) with hb2491 | hb2491
  · replace hM := ct hb2491 hM
    refine wn hS rfl rfl rfl hb2491 rfl rfl fun a hS => ?_
    refine wn hS rfl rfl rfl hb2491 rfl rfl fun a hS => ?_
    refine wn hS rfl rfl rfl hb2491 rfl rfl fun a hS => ?_
    refine wl rfl (ky (v := .bool true) hS (y_pickt hS rfl hb2491 rfl) rfl rfl fun a hS => ?_)
    refine wpList_nil ?_
    try simp only [Exit.then, Exit.inBlock, ↓reduceIte, Nat.reduceEqDiff]
    refine hK294 _ _ ?_
    refine c_t hS rfl rfl ?_
    refine wp_seq_k fun K295 hK295 => ?_
    refine r_list ?_
    obtain ⟨u2492, hu2492, hM⟩ := bd hM
    refine wl rfl (k_call hS ci27 rfl rfl (law24_awake_c _ _ hS.dlt (hS.get 2 rfl) _ hu2492) fun _ w hR a hk hA => ?_)
    have he := Eq.symm hR
    subst he
    have hS := hA [] (fun r hr => by cases hr) List.Pairwise.nil
    refine wl rfl (ky (v := .bool u2492) hS (y_assign hS rfl) rfl rfl fun a hS => ?_)
    refine wpList_nil ?_
    try simp only [Exit.then, Exit.inBlock, ↓reduceIte, Nat.reduceEqDiff]
    refine hK295 _ _ ?_
    refine wp_ret ?_
    injection hM with hM
    subst hM
    try simp only [Exit.then, Exit.inBlock, ↓reduceIte, Nat.reduceEqDiff]
    refine ret_ok hS Tryd.results8 (res_tmp hS rfl res_nil) ?_
    exact rfl
  · replace hM := cf hb2491 hM
    refine wg hS rfl rfl rfl hb2491 (ky (v := v1) hS (y_move hS rfl) rfl rfl fun a hS => ?_)
    obtain ⟨u2494, hu2494, hM⟩ := bd hM
    refine wg hS rfl rfl rfl hb2491 (k_call hS ci26 rfl rfl (mill_Light_c _ _ hS.dlt t_0 _ (hS.get 1 rfl) _ hu2494) fun _ w hR a hk hA => ?_)
    have he := Eq.symm hR
    subst he
    have hS := hA [] (fun r hr => by cases hr) List.Pairwise.nil
    refine wg hS rfl rfl rfl hb2491 (ky (v := .bool (!(u2494))) hS (y_not hS rfl) rfl rfl fun a hS => ?_)
    refine wl rfl (ky (v := .bool (!(u2494))) hS (y_pickf hS rfl hb2491 rfl) rfl rfl fun a hS => ?_)
    refine wpList_nil ?_
    try simp only [Exit.then, Exit.inBlock, ↓reduceIte, Nat.reduceEqDiff]
    refine hK294 _ _ ?_
    rcases bool2 (!(u2494)) with hb2496 | hb2496
    · replace hM := ct hb2496 hM
      refine c_t hS rfl hb2496 ?_
      refine wp_seq_k fun K296 hK296 => ?_
      refine r_list ?_
      obtain ⟨u2497, hu2497, hM⟩ := bd hM
      refine wl rfl (k_call hS ci27 rfl rfl (law24_awake_c _ _ hS.dlt (hS.get 2 rfl) _ hu2497) fun _ w hR a hk hA => ?_)
      have he := Eq.symm hR
      subst he
      have hS := hA [] (fun r hr => by cases hr) List.Pairwise.nil
      refine wl rfl (ky (v := .bool u2497) hS (y_assign hS rfl) rfl rfl fun a hS => ?_)
      refine wpList_nil ?_
      try simp only [Exit.then, Exit.inBlock, ↓reduceIte, Nat.reduceEqDiff]
      refine hK296 _ _ ?_
      refine wp_ret ?_
      injection hM with hM
      subst hM
      try simp only [Exit.then, Exit.inBlock, ↓reduceIte, Nat.reduceEqDiff]
      refine ret_ok hS Tryd.results8 (res_tmp hS rfl res_nil) ?_
      exact rfl
    · replace hM := cf hb2496 hM
      refine c_f hS rfl hb2496 ?_
      refine wp_skip ?_
      try simp only [Exit.then, Exit.inBlock, ↓reduceIte, Nat.reduceEqDiff]
      refine hK293 _ _ ?_
      refine wp_seq_k fun K297 hK297 => ?_
      refine r_list ?_
      refine wl rfl (ky (v := v1) hS (y_move hS rfl) rfl rfl fun a hS => ?_)
      obtain ⟨u2499, hu2499, hM⟩ := bd hM
      refine wl rfl (k_call hS ci29 rfl rfl (mill_Roll_c _ _ hS.dlt t_0 _ (hS.get 1 rfl) _ hu2499) fun _ w hR a hk hA => ?_)
      obtain ⟨bz2500_2, vz2500_3, he, hFbz2500_2, hObz2500_2, hRvz2500_3⟩ := hR
      replace he := he.symm
      subst he
      have hS := hA [.box bz2500_2 [vz2500_3, .int .i64 u2499.At] 84] (adds1 hObz2500_2 (fun k hk => by simp only [Res.dom, Option.some.injEq] at hk; omega)) (pw1 _)
      replace hS := hS.fact (SlF (Rep.int .i64) vz2500_3 u2499.L) (hRvz2500_3.sub (dT_dT _))
      refine wl rfl (ky (v := .pointer (some ⟨bz2500_2, 0, none⟩)) hS (y_assign hS rfl) rfl rfl fun a hS => ?_)
      refine wpList_nil ?_
      try simp only [Exit.then, Exit.inBlock, ↓reduceIte, Nat.reduceEqDiff]
      refine hK297 _ _ ?_
      refine wp_seq_k fun K298 hK298 => ?_
      refine r_list ?_
      refine wl rfl (ky (v := .pointer (some ⟨bz2500_2, 0, none⟩)) hS (y_move hS rfl) rfl rfl fun a hS => ?_)
      obtain ⟨u2502, hu2502, hM⟩ := bd hM
      refine wl rfl (k_callmr hS ci28 rfl rfl 0 rfl (mill_Rules_c _ _ (hS.drop 0).dlt u2499 _ _ (hS.boxRow 0 rfl) (hS.notin 0 rfl) (SlR.lent (i := 0) rfl (hS.get 0 rfl)) _ hu2502) fun _ w hR hk => ?_)
      obtain ⟨vz2503_3, clz2503_4, vz2503_5, he, ⟨hOvz2503_3, hFvz2503_3, hRvz2503_3⟩, hrow, hRvz2503_5⟩ := hR
      replace he := he.symm
      subst he
      refine ⟨[vz2503_5, .int .i64 u2502.2.At], [.own vz2503_3 53 R_RuleD.size clz2503_4], hrow, adds1 ⟨hOvz2503_3, by decide⟩ hFvz2503_3, pw1 _, fun a hS => ?_⟩
      replace hS := hS.fact (RowsF R_RuleD clz2503_4 u2502.1) (hRvz2503_3.keep (Kt.refl _ _) (Nw.back2 (i := 0) rfl [.own vz2503_3 53 R_RuleD.size clz2503_4] _))
      replace hS := hS.fact (SlF (Rep.int .i64) vz2503_5 u2502.2.L) (hRvz2503_5.sub (Nw.back2 (i := 0) rfl [.own vz2503_3 53 R_RuleD.size clz2503_4] _))
      refine wl rfl (ky (v := vz2503_3) hS (y_assign hS rfl) rfl rfl fun a hS => ?_)
      refine wpList_nil ?_
      try simp only [Exit.then, Exit.inBlock, ↓reduceIte, Nat.reduceEqDiff]
      refine hK298 _ _ ?_
      refine wp_seq_k fun K299 hK299 => ?_
      refine r_list ?_
      refine wl rfl (ky (v := .slice none 0 0) hS (y_assign hS rfl) rfl rfl fun a hS => ?_)
      refine wpList_nil ?_
      try simp only [Exit.then, Exit.inBlock, ↓reduceIte, Nat.reduceEqDiff]
      refine hK299 _ _ ?_
      refine seq_j (J := fun a w => ∃ (near2552 : (List ByteArray)) (v2553 : Value) (cl2554 : (List Value)), St W0 No T 105 [(1, v2), (2, .int .i64 n_2), (7, .pointer (some ⟨b2485, 0, none⟩)), (10, vz2503_3), (11, v2553)] [.own vz2503_3 53 R_RuleD.size clz2503_4, .own v2553 9 Rep.str.size cl2554, .box b2485 [.int .i64 k_3.Kind, .string k_3.Text] 28] [SlF Rep.str v2 answers_, RowsF R_RuleD clz2503_4 u2502.1, RowsF Rep.str cl2554 near2552, LvF] a w ∧ law24_ToyTurns_j8 answers_ n_2 k_3 u2502 near2552 = some y) ?_ ?_
      · skip
        refine wp_seq_k fun K648 hK648 => ?_
        refine r_list ?_
        refine wl rfl (ky (v := .int .i64 0) hS (y_move hS rfl) rfl rfl fun a hS => ?_)
        refine wpList_nil ?_
        try simp only [Exit.then, Exit.inBlock, ↓reduceIte, Nat.reduceEqDiff]
        refine hK648 _ _ ?_
        refine wp_block ?_
        replace hS := hS.nilRow Rep.str 9 (by decide)
        obtain ⟨r1, hl1, hMo1⟩ := bd hM
        refine wp_lp (fun s : (List ByteArray) × Int × (List Int) × Int => law24_ToyTurns_l9 s.1 s.2.1 s.2.2.1 s.2.2.2) (fun s a w => ∃ (near5535 : (List ByteArray)) (g5539 : Int) (g5540 : (List Int)) (g5542 : Int) (v5536 : Value) (cl5537 : (List Value)) (v5541 : Value), (near5535, g5539, g5540, g5542) = s ∧ St W0 No T 105 [(1, v2), (2, .int .i64 n_2), (7, .pointer (some ⟨b2485, 0, none⟩)), (9, .pointer (some ⟨bz2500_2, 0, none⟩)), (10, vz2503_3), (11, v5536), (30, .int .i64 g5539)] [.own vz2503_3 53 R_RuleD.size clz2503_4, .own v5536 9 Rep.str.size cl5537, .box b2485 [.int .i64 k_3.Kind, .string k_3.Text] 28, .box bz2500_2 [v5541, .int .i64 g5542] 84] [SlF Rep.str v2 answers_, RowsF R_RuleD clz2503_4 u2502.1, RowsF Rep.str cl5537 near5535, SlF (Rep.int .i64) v5541 g5540, LvF] a w) hl1 ⟨([] : List ByteArray), 0, u2502.2.L, u2502.2.At, (.slice none 0 0), ([]), vz2503_5, rfl, (hS.meet [1, 0, 3, 2] (by decide) ⟨rfl, rfl, rfl, rfl, rfl, rfl, rfl, trivial⟩ ⟨rfl, rfl, rfl, rfl, trivial⟩ ⟨⟨4, rfl⟩, ⟨2, rfl⟩, ⟨0, rfl⟩, ⟨1, rfl⟩, ⟨6, rfl⟩, trivial⟩)⟩ ?_
        rintro s a w f1 ⟨near5535, g5539, g5540, g5542, v5536, cl5537, v5541, rfl, hS⟩ hM hf1
        have hM : law24_ToyTurns_l9 near5535 g5539 g5540 g5542 = some f1 := hM
        unfold law24_ToyTurns_l9 at hM
        refine wp_seq_k fun K655 hK655 => ?_
        refine r_list ?_
        refine wl rfl (ky (v := .bool (decide ((g5539 : Int) < 7))) hS (y_int hS rfl rfl rfl) rfl rfl fun a hS => ?_)
        refine wpList_nil ?_
        try simp only [Exit.then, Exit.inBlock, ↓reduceIte, Nat.reduceEqDiff]
        refine hK655 _ _ ?_
        refine wp_seq_k fun K656 hK656 => ?_
        rcases bool2 (decide ((g5539 : Int) < 7)) with hb5563 | hb5563
        · replace hM := ct hb5563 hM
          refine c_t hS rfl hb5563 ?_
          refine wp_skip ?_
          try simp only [Exit.then, Exit.inBlock, ↓reduceIte, Nat.reduceEqDiff]
          refine hK656 _ _ ?_
          refine wp_seq_k fun K657 hK657 => ?_
          refine wp_block ?_
          refine r_list ?_
          refine wl rfl (ky (v := v5536) hS (y_move hS rfl) rfl rfl fun a hS => ?_)
          refine wl rfl (ky (v := .pointer (some ⟨bz2500_2, 0, none⟩)) hS (y_move hS rfl) rfl rfl fun a hS => ?_)
          refine wl rfl (k_bslice (ps := [(0, .const (.string ⟨#[48]⟩)), (1, .const (.string ⟨#[49]⟩)), (2, .const (.string ⟨#[50]⟩)), (3, .const (.string ⟨#[53]⟩)), (4, .const (.string ⟨#[57, 57, 57]⟩)), (5, .const (.string ⟨#[54, 53, 53, 51, 53]⟩)), (6, .const (.string ⟨#[54, 53, 53, 51, 54]⟩)), (7, .const (.string ⟨#[]⟩)), (8, .const (.string ⟨#[120]⟩)), (9, .const (.string ⟨#[48, 49]⟩))]) hS el65 ze9 (zl := [.string (ByteArray.mk #[]), .string (ByteArray.mk #[]), .string (ByteArray.mk #[]), .string (ByteArray.mk #[]), .string (ByteArray.mk #[]), .string (ByteArray.mk #[]), .string (ByteArray.mk #[]), .string (ByteArray.mk #[]), .string (ByteArray.mk #[]), .string (ByteArray.mk #[])]) (by kernel_rfl) rfl (us := [[.string (ByteArray.mk #[48])], [.string (ByteArray.mk #[49])], [.string (ByteArray.mk #[50])], [.string (ByteArray.mk #[53])], [.string (ByteArray.mk #[57, 57, 57])], [.string (ByteArray.mk #[54, 53, 53, 51, 53])], [.string (ByteArray.mk #[54, 53, 53, 51, 54])], [.string (ByteArray.mk #[])], [.string (ByteArray.mk #[120])], [.string (ByteArray.mk #[48, 49])]]) ⟨rfl, ⟨rfl, ⟨rfl, ⟨rfl, ⟨rfl, ⟨rfl, ⟨rfl, ⟨rfl, ⟨rfl, ⟨rfl, trivial⟩⟩⟩⟩⟩⟩⟩⟩⟩⟩ (ws := [.string (ByteArray.mk #[48]), .string (ByteArray.mk #[49]), .string (ByteArray.mk #[50]), .string (ByteArray.mk #[53]), .string (ByteArray.mk #[57, 57, 57]), .string (ByteArray.mk #[54, 53, 53, 51, 53]), .string (ByteArray.mk #[54, 53, 53, 51, 54]), .string (ByteArray.mk #[]), .string (ByteArray.mk #[120]), .string (ByteArray.mk #[48, 49])]) rfl rfl rfl rfl fun b5564 a w hk hS => ?_)
          replace hS := hS.lit (R := Rep.str) (us := [.string (ByteArray.mk #[48]), .string (ByteArray.mk #[49]), .string (ByteArray.mk #[50]), .string (ByteArray.mk #[53]), .string (ByteArray.mk #[57, 57, 57]), .string (ByteArray.mk #[54, 53, 53, 51, 53]), .string (ByteArray.mk #[54, 53, 53, 51, 54]), .string (ByteArray.mk #[]), .string (ByteArray.mk #[120]), .string (ByteArray.mk #[48, 49])]) (xs := [(ByteArray.mk #[48]), (ByteArray.mk #[49]), (ByteArray.mk #[50]), (ByteArray.mk #[53]), (ByteArray.mk #[57, 57, 57]), (ByteArray.mk #[54, 53, 53, 51, 53]), (ByteArray.mk #[54, 53, 53, 51, 54]), (ByteArray.mk #[]), (ByteArray.mk #[120]), (ByteArray.mk #[48, 49])]) 0 rfl (by decide) ((RowsOk.one_ (R := Rep.str) (x := (ByteArray.mk #[48])) rfl).append ((RowsOk.one_ (R := Rep.str) (x := (ByteArray.mk #[49])) rfl).append ((RowsOk.one_ (R := Rep.str) (x := (ByteArray.mk #[50])) rfl).append ((RowsOk.one_ (R := Rep.str) (x := (ByteArray.mk #[53])) rfl).append ((RowsOk.one_ (R := Rep.str) (x := (ByteArray.mk #[57, 57, 57])) rfl).append ((RowsOk.one_ (R := Rep.str) (x := (ByteArray.mk #[54, 53, 53, 51, 53])) rfl).append ((RowsOk.one_ (R := Rep.str) (x := (ByteArray.mk #[54, 53, 53, 51, 54])) rfl).append ((RowsOk.one_ (R := Rep.str) (x := (ByteArray.mk #[])) rfl).append ((RowsOk.one_ (R := Rep.str) (x := (ByteArray.mk #[120])) rfl).append (RowsOk.one_ (R := Rep.str) (x := (ByteArray.mk #[48, 49])) rfl)))))))))) rfl rfl
          replace hS := hS.freeze (R := Rep.str) 0 rfl 0 rfl
          obtain ⟨u5566, hu5566, hM⟩ := bd hM
          refine wl rfl (k_callm hS ci34 rfl rfl 3 rfl (dice_Word_c _ _ (hS.drop 3).dlt (DiceD.mk g5540 g5542) ([(ByteArray.mk #[48]), (ByteArray.mk #[49]), (ByteArray.mk #[50]), (ByteArray.mk #[53]), (ByteArray.mk #[57, 57, 57]), (ByteArray.mk #[54, 53, 53, 51, 53]), (ByteArray.mk #[54, 53, 53, 51, 54]), (ByteArray.mk #[]), (ByteArray.mk #[120]), (ByteArray.mk #[48, 49])]) _ _ _ (hS.boxRow 3 rfl) (hS.notin 3 rfl) (SlR.lent (i := 3) rfl (hS.get 5 rfl)) (SlR.lent (i := 3) rfl (hS.get 0 rfl)) _ hu5566) fun _ w hR hk => ?_)
          obtain ⟨vz5567_4, he, hrow, hRvz5567_4⟩ := hR
          replace he := he.symm
          subst he
          refine ⟨[vz5567_4, .int .i64 u5566.2.At], hrow, fun a hS => ?_⟩
          replace hS := hS.fact (SlF (Rep.int .i64) vz5567_4 u5566.2.L) (SlR.back (i := 3) rfl hRvz5567_4)
          refine wl rfl (k_bslice (ps := [(0, .tmp 35)]) hS el65 ze9 (zl := [.string (ByteArray.mk #[])]) (by kernel_rfl) rfl (us := [[.string u5566.1]]) ⟨rfl, trivial⟩ (ws := [.string u5566.1]) rfl rfl rfl rfl fun b5568 a w hk hS => ?_)
          replace hS := hS.lit (R := Rep.str) (us := [.string u5566.1]) (xs := [u5566.1]) 0 rfl (by decide) (RowsOk.one_ (R := Rep.str) (x := u5566.1) rfl) rfl rfl
          replace hS := hS.freeze (R := Rep.str) 0 rfl 0 rfl
          obtain ⟨hg5570, hM⟩ := gd_some hM
          refine wl rfl (k_apps (R := Rep.str) (xs := near5535) (ys := [u5566.1]) hS el65 (by decide) (by decide) rfl rfl 1 rfl 7 rfl 0 rfl hg5570 rfl fun v5571 cl5572 a w hk hS => ?_)
          refine wl rfl (ky (v := v5571) hS (y_assign hS rfl) rfl rfl fun a hS => ?_)
          refine wpList_nil ?_
          try simp only [Exit.then, Exit.inBlock, ↓reduceIte, Nat.reduceEqDiff]
          refine hK657 _ _ ?_
          refine r_list ?_
          refine wl rfl (ky (v := .int .i64 (IntKind.i64.wrap (g5539 + 1))) hS (y_int hS rfl rfl rfl) rfl rfl fun a hS => ?_)
          refine wl rfl (ky (v := .int .i64 (IntKind.i64.wrap (g5539 + 1))) hS (y_move hS rfl) rfl rfl fun a hS => ?_)
          refine wpList_nil ?_
          try simp only [Exit.then, Exit.inBlock, ↓reduceIte, Nat.reduceEqDiff]
          exact ⟨((near5535 ++ ([u5566.1])), IntKind.i64.wrap (g5539 + 1), u5566.2.L, u5566.2.At), (Option.some.inj hM).symm, (near5535 ++ ([u5566.1])), (IntKind.i64.wrap (g5539 + 1)), u5566.2.L, u5566.2.At, v5571, cl5572, vz5567_4, rfl, (hS.meet [0, 1, 2, 3] (by decide) ⟨rfl, rfl, rfl, rfl, rfl, rfl, rfl, trivial⟩ ⟨rfl, rfl, rfl, rfl, trivial⟩ ⟨⟨6, rfl⟩, ⟨7, rfl⟩, ⟨0, rfl⟩, ⟨3, rfl⟩, ⟨10, rfl⟩, trivial⟩)⟩
        · replace hM := cf hb5563 hM
          refine c_f hS rfl hb5563 ?_
          refine wp_exit ?_
          try simp only [Exit.then, Exit.inBlock, ↓reduceIte, Nat.reduceEqDiff]
          injection hM with hM
          subst hM
          have hr := hf1 _ rfl
          subst hr
          have hM : law24_ToyTurns_j8 answers_ n_2 k_3 u2502 near5535 = some y := hMo1
          exact ⟨near5535, v5536, cl5537, (hS.meet [0, 1, 2] (by decide) ⟨rfl, rfl, rfl, rfl, rfl, trivial⟩ ⟨rfl, rfl, rfl, trivial⟩ ⟨⟨0, rfl⟩, ⟨1, rfl⟩, ⟨2, rfl⟩, ⟨4, rfl⟩, trivial⟩), hM⟩
      · rintro a w ⟨near2552, v2553, cl2554, hS, hM⟩
        unfold law24_ToyTurns_j8 at hM
        refine seq_j (J := fun a w => St W0 No T 105 [(1, v2), (11, v2553)] [.own v2553 9 Rep.str.size cl2554] [SlF Rep.str v2 answers_, RowsF Rep.str cl2554 near2552, LvF] a w ∧ law24_ToyTurns_j3 answers_ near2552 = some y) ?_ ?_
        · skip
          refine wp_seq_k fun K461 hK461 => ?_
          refine draws [] hS mixed rfl (fun c a d v w h => by cases d <;> exact h) fun w hQ hS => ?_
          refine dy (l := []) 0 (v := .agg #[.int .i64 k_3.Kind, .string k_3.Text]) rfl (by kernel_rfl) (by kernel_rfl) (by kernel_rfl) (by kernel_rfl) hQ hS (y_load hS rfl ty28 2 rfl eo_nil (us := [.int .i64 k_3.Kind, .string k_3.Text]) rfl rfl (fun h => by cases h)) rfl rfl rfl fun a hS => ?_
          refine dy 1 (v := vz2503_3) rfl (by kernel_rfl) (by kernel_rfl) (by kernel_rfl) rfl hQ hS (y_move hS rfl) rfl rfl rfl fun a hS => ?_
          refine dy 2 (v := .int .i64 n_2) rfl (by kernel_rfl) (by kernel_rfl) (by kernel_rfl) rfl hQ hS (y_move hS rfl) rfl rfl rfl fun a hS => ?_
          refine dy 3 (v := vz2503_3) rfl (by kernel_rfl) (by kernel_rfl) (by kernel_rfl) rfl hQ hS (y_move hS rfl) rfl rfl rfl fun a hS => ?_
          refine dy 4 (v := .int .i64 (u2502.1.length : Int)) rfl (by kernel_rfl) (by kernel_rfl) (by kernel_rfl) rfl hQ hS (y_leno (R := R_RuleD) (xs := u2502.1) hS sl49 rfl 0 rfl 1 rfl) rfl rfl rfl fun a hS => ?_
          refine dy 7 (v := .int .i64 n_2) rfl (by kernel_rfl) (by kernel_rfl) (by kernel_rfl) rfl hQ hS (y_move hS rfl) rfl rfl rfl fun a hS => ?_
          refine dy 11 (v := .int .i64 n_2) rfl (by kernel_rfl) (by kernel_rfl) (by kernel_rfl) rfl hQ hS (y_move hS rfl) rfl rfl rfl fun a hS => ?_
          refine dy 17 (v := .int .i64 0) rfl (by kernel_rfl) (by kernel_rfl) (by kernel_rfl) rfl hQ hS (y_move hS rfl) rfl rfl rfl fun a hS => ?_
          obtain ⟨u3825, hu3825, hM⟩ := bd hM
          refine wpE_one (i := 5) rfl (by kernel_rfl) rfl (k_call hS ci18 rfl rfl (mill_Mod_c _ _ hS.dlt n_2 (u2502.1.length : Int) _ hu3825) fun _ w hR a hk hA => ⟨stN (hk), ?_⟩)
          have he := Eq.symm hR
          subst he
          have hS := hA [] (fun r hr => by cases hr) List.Pairwise.nil
          have hL := hS
          replace hL := hL.freeze (R := R_RuleD) 0 rfl 1 rfl
          obtain ⟨u3827, hu3827, hM⟩ := bd hM
          refine wpE_one (i := 6) rfl (by kernel_rfl) rfl (k_call hS ci35 rfl rfl (ref23_Of_c _ _ hL.dlt (hL.get 4 rfl) u2502.1 u3825 _ (hL.get 0 rfl) _ hu3827) fun _ w hR a hk hA => ⟨stN (hk), ?_⟩)
          have he := Eq.symm hR
          subst he
          have hS := hA [] (fun r hr => by cases hr) List.Pairwise.nil
          obtain ⟨u3829, hu3829, hM⟩ := bd hM
          refine wpE_one (i := 8) rfl (by kernel_rfl) rfl (k_call hS ci18 rfl rfl (mill_Mod_c _ _ hS.dlt n_2 10 _ hu3829) fun _ w hR a hk hA => ⟨stN (hk), ?_⟩)
          have he := Eq.symm hR
          subst he
          have hS := hA [] (fun r hr => by cases hr) List.Pairwise.nil
          obtain ⟨u3831, hu3831, hM⟩ := bd hM
          refine wpE_one (i := 9) rfl (by kernel_rfl) rfl (k_call hS ci36 rfl rfl (itoaM_c _ _ hS.dlt (hS.get 3 rfl) u3829 _ hu3831) fun _ w hR a hk hA => ⟨stN (hk), ?_⟩)
          have he := Eq.symm hR
          subst he
          have hS := hA [] (fun r hr => by cases hr) List.Pairwise.nil
          refine dy 10 (v := .agg #[.int .i64 31, .string u3831]) rfl (by kernel_rfl) (by kernel_rfl) (by kernel_rfl) rfl hQ hS (y_build (ps := [(0, .const (.int .i64 31)), (1, .tmp 48)]) hS pl28 ze28 rfl (us := [[.int .i64 31], [.string u3831]]) ⟨rfl, ⟨rfl, trivial⟩⟩ (ws := [.int .i64 31, .string u3831]) rfl) rfl rfl rfl fun a hS => ?_
          obtain ⟨u3833, hu3833, hM⟩ := bd hM
          refine wpE_one (i := 12) rfl (by kernel_rfl) rfl (k_call hS ci18 rfl rfl (mill_Mod_c _ _ hS.dlt n_2 10 _ hu3833) fun _ w hR a hk hA => ⟨stN (hk), ?_⟩)
          have he := Eq.symm hR
          subst he
          have hS := hA [] (fun r hr => by cases hr) List.Pairwise.nil
          obtain ⟨u3835, hu3835, hM⟩ := bd hM
          refine wpE_one (i := 13) rfl (by kernel_rfl) rfl (k_call hS ci36 rfl rfl (itoaM_c _ _ hS.dlt (hS.get 3 rfl) u3833 _ hu3835) fun _ w hR a hk hA => ⟨stN (hk), ?_⟩)
          have he := Eq.symm hR
          subst he
          have hS := hA [] (fun r hr => by cases hr) List.Pairwise.nil
          refine dy 14 (v := .agg #[.int .i64 32, .string u3835]) rfl (by kernel_rfl) (by kernel_rfl) (by kernel_rfl) rfl hQ hS (y_build (ps := [(0, .const (.int .i64 32)), (1, .tmp 52)]) hS pl28 ze28 rfl (us := [[.int .i64 32], [.string u3835]]) ⟨rfl, ⟨rfl, trivial⟩⟩ (ws := [.int .i64 32, .string u3835]) rfl) rfl rfl rfl fun a hS => ?_
          refine wpE_one (i := 15) rfl (by kernel_rfl) rfl (k_bslice (ps := [(0, .tmp 39), (1, .tmp 45), (2, .tmp 49), (3, .tmp 53)]) hS el24 ze28 (zl := [.int .i64 0, .string (ByteArray.mk #[]), .int .i64 0, .string (ByteArray.mk #[]), .int .i64 0, .string (ByteArray.mk #[]), .int .i64 0, .string (ByteArray.mk #[])]) (by kernel_rfl) rfl (us := [[.int .i64 k_3.Kind, .string k_3.Text], [.int .i64 u3827.Kind, .string u3827.Text], [.int .i64 31, .string u3831], [.int .i64 32, .string u3835]]) ⟨rfl, ⟨rfl, ⟨rfl, ⟨rfl, trivial⟩⟩⟩⟩ (ws := [.int .i64 k_3.Kind, .string k_3.Text, .int .i64 u3827.Kind, .string u3827.Text, .int .i64 31, .string u3831, .int .i64 32, .string u3835]) rfl rfl rfl rfl fun b3837 a w hk hS => ⟨stN (hk), ?_⟩)
          replace hS := hS.lit (R := R_KeyD) (us := [.int .i64 k_3.Kind, .string k_3.Text, .int .i64 u3827.Kind, .string u3827.Text, .int .i64 31, .string u3831, .int .i64 32, .string u3835]) (xs := [k_3, u3827, (KeyD.mk 31 u3831), (KeyD.mk 32 u3835)]) 0 rfl (by decide) ((RowsOk.one_ (R := R_KeyD) (x := k_3) rfl).append ((RowsOk.one_ (R := R_KeyD) (x := u3827) rfl).append ((RowsOk.one_ (R := R_KeyD) (x := (KeyD.mk 31 u3831)) rfl).append (RowsOk.one_ (R := R_KeyD) (x := (KeyD.mk 32 u3835)) rfl)))) rfl rfl
          refine dy 16 (v := .int .i64 (([k_3, u3827, (KeyD.mk 31 u3831), (KeyD.mk 32 u3835)]).length : Int)) rfl (by kernel_rfl) (by kernel_rfl) (by kernel_rfl) rfl hQ hS (y_leno (R := R_KeyD) (xs := [k_3, u3827, (KeyD.mk 31 u3831), (KeyD.mk 32 u3835)]) hS sl24 rfl 0 rfl 0 rfl) rfl rfl rfl fun a hS => ?_
          refine wpE_done (by kernel_rfl) ?_ _
          try simp only [Exit.then, Exit.inBlock, ↓reduceIte, Nat.reduceEqDiff]
          refine hK461 _ _ ?_
          refine wp_block ?_
          obtain ⟨r1, hl1, hMo1⟩ := bd hM
          refine wp_lp (fun s : (List KeyD) × Int => law24_ToyTurns_l7 answers_ k_3 u2502 near2552 u3827 u3831 u3835 s.1 s.2) (fun s a w => ∃ (g4381 : (List KeyD)) (g4385 : Int) (v4382 : Value) (cl4383 : (List Value)), (g4381, g4385) = s ∧ St W0 No T 105 [(1, v2), (10, vz2503_3), (11, v2553), (54, v4382), (55, .int .i64 (([k_3, u3827, (KeyD.mk 31 u3831), (KeyD.mk 32 u3835)]).length : Int)), (56, .int .i64 g4385)] [.own vz2503_3 53 R_RuleD.size clz2503_4, .own v2553 9 Rep.str.size cl2554, .own v4382 28 R_KeyD.size cl4383] [SlF Rep.str v2 answers_, RowsF R_RuleD clz2503_4 u2502.1, RowsF Rep.str cl2554 near2552, RowsF R_KeyD cl4383 g4381, LvF] a w) hl1 ⟨([k_3, u3827, (KeyD.mk 31 u3831), (KeyD.mk 32 u3835)]), 0, (.slice (some ⟨b3837, 0, none⟩) 4 4), ([.int .i64 k_3.Kind, .string k_3.Text, .int .i64 u3827.Kind, .string u3827.Text, .int .i64 31, .string u3831, .int .i64 32, .string u3835]), rfl, (hS.meet [1, 2, 0] (by decide) ⟨rfl, rfl, rfl, rfl, rfl, rfl, trivial⟩ ⟨rfl, rfl, rfl, trivial⟩ ⟨⟨1, rfl⟩, ⟨2, rfl⟩, ⟨3, rfl⟩, ⟨0, rfl⟩, ⟨4, rfl⟩, trivial⟩)⟩ ?_
          rintro s a w f1 ⟨g4381, g4385, v4382, cl4383, rfl, hS⟩ hM hf1
          have hM : law24_ToyTurns_l7 answers_ k_3 u2502 near2552 u3827 u3831 u3835 g4381 g4385 = some f1 := hM
          unfold law24_ToyTurns_l7 at hM
          refine wp_seq_k fun K582 hK582 => ?_
          refine r_list ?_
          refine wl rfl (ky (v := .bool (decide ((g4385 : Int) < (([k_3, u3827, (KeyD.mk 31 u3831), (KeyD.mk 32 u3835)]).length : Int)))) hS (y_int hS rfl rfl rfl) rfl rfl fun a hS => ?_)
          refine wpList_nil ?_
          try simp only [Exit.then, Exit.inBlock, ↓reduceIte, Nat.reduceEqDiff]
          refine hK582 _ _ ?_
          refine wp_seq_k fun K583 hK583 => ?_
          rcases bool2 (decide ((g4385 : Int) < (([k_3, u3827, (KeyD.mk 31 u3831), (KeyD.mk 32 u3835)]).length : Int))) with hb4924 | hb4924
          · replace hM := ct hb4924 hM
            refine c_t hS rfl hb4924 ?_
            refine wp_skip ?_
            try simp only [Exit.then, Exit.inBlock, ↓reduceIte, Nat.reduceEqDiff]
            refine hK583 _ _ ?_
            refine seq_j (J := fun a w => St W0 No T 105 [(1, v2), (10, vz2503_3), (11, v2553), (54, v4382), (55, .int .i64 (([k_3, u3827, (KeyD.mk 31 u3831), (KeyD.mk 32 u3835)]).length : Int)), (56, .int .i64 g4385)] [.own vz2503_3 53 R_RuleD.size clz2503_4, .own v2553 9 Rep.str.size cl2554, .own v4382 28 R_KeyD.size cl4383] [SlF Rep.str v2 answers_, RowsF R_RuleD clz2503_4 u2502.1, RowsF Rep.str cl2554 near2552, RowsF R_KeyD cl4383 g4381, LvF] a w ∧ law24_ToyTurns_j4 g4381 g4385 = some f1) ?_ ?_
            · skip
              refine wp_block ?_
              refine wp_seq_k fun K613 hK613 => ?_
              refine r_list ?_
              obtain ⟨e5191, he5191, hM⟩ := bd hM
              refine wl rfl (k_indexo (R := R_KeyD) hS sl24 ty28 rfl rfl 2 rfl 3 rfl he5191 rfl fun b5192 o5193 p5198 cs5195 hr5194 hO5196 hC5197 a hS => ?_)
              obtain rfl := hr5194
              refine wl rfl (ky (v := .agg #[.int .i64 e5191.Kind, .string e5191.Text]) hS (y_loado (k := 0) hS ty28 2 rfl hO5196 hC5197 rfl id (us := [.int .i64 e5191.Kind, .string e5191.Text]) rfl rfl (fun h => by cases h)) rfl rfl fun a hS => ?_)
              refine wl rfl (k_alloc hS ze28 rfl fun b5199 hnb5201 a w hk hS => ?_)
              refine wl rfl (k_store hS rfl rfl (us := [.int .i64 e5191.Kind, .string e5191.Text]) rfl ty28 0 rfl rfl rfl (oc rfl (oc rfl on)) fun w hk hS => ?_)
              refine wpList_nil ?_
              try simp only [Exit.then, Exit.inBlock, ↓reduceIte, Nat.reduceEqDiff]
              refine hK613 _ _ ?_
              refine seq_j (J := fun a w => St W0 No T 105 [(1, v2), (10, vz2503_3), (11, v2553), (13, .pointer (some ⟨b5199, 0, none⟩)), (54, v4382), (55, .int .i64 (([k_3, u3827, (KeyD.mk 31 u3831), (KeyD.mk 32 u3835)]).length : Int)), (56, .int .i64 g4385)] [.own vz2503_3 53 R_RuleD.size clz2503_4, .own v2553 9 Rep.str.size cl2554, .own v4382 28 R_KeyD.size cl4383, .box b5199 [.int .i64 e5191.Kind, .string e5191.Text] 28] [SlF Rep.str v2 answers_, RowsF R_RuleD clz2503_4 u2502.1, RowsF Rep.str cl2554 near2552, RowsF R_KeyD cl4383 g4381, LvF] a w ∧ law24_ToyTurns_j5 answers_ u2502 g4381 g4385 e5191 = some f1) ?_ ?_
              · skip
                refine wp_seq_k fun K629 hK629 => ?_
                refine r_list ?_
                refine wl rfl (ky (v := v2553) hS (y_move hS rfl) rfl rfl fun a hS => ?_)
                refine wl rfl (ky (v := .int .i64 (near2552.length : Int)) hS (y_leno (R := Rep.str) (xs := near2552) hS sl65 rfl 2 rfl 2 rfl) rfl rfl fun a hS => ?_)
                refine wl rfl (ky (v := .int .i64 (IntKind.i64.wrap ((near2552.length : Int) + 1))) hS (y_int hS rfl rfl rfl) rfl rfl fun a hS => ?_)
                refine wl rfl (ky (v := .int .i64 0) hS (y_move hS rfl) rfl rfl fun a hS => ?_)
                refine wpList_nil ?_
                try simp only [Exit.then, Exit.inBlock, ↓reduceIte, Nat.reduceEqDiff]
                refine hK629 _ _ ?_
                refine wp_block ?_
                obtain ⟨r2, hl2, hMo2⟩ := bd hM
                refine wp_lp (fun s : Int => law24_ToyTurns_l6 u2502 near2552 e5191 s) (fun s a w => ∃ (g5397 : Int), g5397 = s ∧ St W0 No T 105 [(1, v2), (10, vz2503_3), (11, v2553), (13, .pointer (some ⟨b5199, 0, none⟩)), (54, v4382), (55, .int .i64 (([k_3, u3827, (KeyD.mk 31 u3831), (KeyD.mk 32 u3835)]).length : Int)), (56, .int .i64 g4385), (62, .int .i64 (IntKind.i64.wrap ((near2552.length : Int) + 1))), (63, .int .i64 g5397)] [.own vz2503_3 53 R_RuleD.size clz2503_4, .own v2553 9 Rep.str.size cl2554, .own v4382 28 R_KeyD.size cl4383, .box b5199 [.int .i64 e5191.Kind, .string e5191.Text] 28] [SlF Rep.str v2 answers_, RowsF R_RuleD clz2503_4 u2502.1, RowsF Rep.str cl2554 near2552, RowsF R_KeyD cl4383 g4381, LvF] a w) hl2 ⟨0, rfl, (hS.meet [1, 2, 3, 0] (by decide) ⟨rfl, rfl, rfl, rfl, rfl, rfl, rfl, rfl, rfl, trivial⟩ ⟨rfl, rfl, rfl, rfl, trivial⟩ ⟨⟨0, rfl⟩, ⟨1, rfl⟩, ⟨2, rfl⟩, ⟨3, rfl⟩, ⟨4, rfl⟩, trivial⟩)⟩ ?_
                rintro s a w f2 ⟨g5397, rfl, hS⟩ hM hf2
                have hM : law24_ToyTurns_l6 u2502 near2552 e5191 g5397 = some f2 := hM
                unfold law24_ToyTurns_l6 at hM
                refine wp_seq_k fun K642 hK642 => ?_
                refine r_list ?_
                refine wl rfl (ky (v := .bool (decide ((g5397 : Int) < (IntKind.i64.wrap ((near2552.length : Int) + 1))))) hS (y_int hS rfl rfl rfl) rfl rfl fun a hS => ?_)
                refine wpList_nil ?_
                try simp only [Exit.then, Exit.inBlock, ↓reduceIte, Nat.reduceEqDiff]
                refine hK642 _ _ ?_
                refine wp_seq_k fun K643 hK643 => ?_
                rcases bool2 (decide ((g5397 : Int) < (IntKind.i64.wrap ((near2552.length : Int) + 1)))) with hb5457 | hb5457
                · replace hM := ct hb5457 hM
                  refine c_t hS rfl hb5457 ?_
                  refine wp_skip ?_
                  try simp only [Exit.then, Exit.inBlock, ↓reduceIte, Nat.reduceEqDiff]
                  refine hK643 _ _ ?_
                  refine wp_seq_k fun K644 hK644 => ?_
                  refine wp_block ?_
                  refine wp_seq_k fun K645 hK645 => ?_
                  refine r_list ?_
                  refine wl rfl (ky (v := .int .i64 g5397) hS (y_move hS rfl) rfl rfl fun a hS => ?_)
                  refine wl rfl (ky (v := .int .i64 g5397) hS (y_assign hS rfl) rfl rfl fun a hS => ?_)
                  refine wpList_nil ?_
                  try simp only [Exit.then, Exit.inBlock, ↓reduceIte, Nat.reduceEqDiff]
                  refine hK645 _ _ ?_
                  refine wp_seq_k fun K646 hK646 => ?_
                  refine draws [] hS mixed rfl (fun c a d v w h => by cases d <;> exact h) fun w hQ hS => ?_
                  refine dy 0 (v := vz2503_3) rfl (by kernel_rfl) (by kernel_rfl) (by kernel_rfl) rfl hQ hS (y_move hS rfl) rfl rfl rfl fun a hS => ?_
                  refine dy (l := []) 1 (v := .agg #[.int .i64 e5191.Kind, .string e5191.Text]) rfl (by kernel_rfl) (by kernel_rfl) (by kernel_rfl) (by kernel_rfl) hQ hS (y_load hS rfl ty28 3 rfl eo_nil (us := [.int .i64 e5191.Kind, .string e5191.Text]) rfl rfl (fun h => by cases h)) rfl rfl rfl fun a hS => ?_
                  refine dy 2 (v := v2553) rfl (by kernel_rfl) (by kernel_rfl) (by kernel_rfl) rfl hQ hS (y_move hS rfl) rfl rfl rfl fun a hS => ?_
                  refine dy 3 (v := .int .i64 g5397) rfl (by kernel_rfl) (by kernel_rfl) (by kernel_rfl) rfl hQ hS (y_move hS rfl) rfl rfl rfl fun a hS => ?_
                  obtain ⟨l5500, hl5500, hM⟩ := bd hM
                  obtain ⟨v5501, hv5502, hy5503⟩ := d_view (R := Rep.str) hS sl65 ty9 1 rfl 2 rfl hl5500
                  refine dy 4 (v := v5501) rfl (by kernel_rfl) (by kernel_rfl) (by kernel_rfl) rfl hQ hS (hy5503 (k1 := .i64) rfl (.inr ⟨rfl, rfl⟩) (.inl ⟨_, rfl, rfl⟩)) rfl rfl rfl fun a hS => ?_
                  refine dy 6 (v := vz2503_3) rfl (by kernel_rfl) (by kernel_rfl) (by kernel_rfl) rfl hQ hS (y_move hS rfl) rfl rfl rfl fun a hS => ?_
                  refine dy (l := []) 7 (v := .agg #[.int .i64 e5191.Kind, .string e5191.Text]) rfl (by kernel_rfl) (by kernel_rfl) (by kernel_rfl) (by kernel_rfl) hQ hS (y_load hS rfl ty28 3 rfl eo_nil (us := [.int .i64 e5191.Kind, .string e5191.Text]) rfl rfl (fun h => by cases h)) rfl rfl rfl fun a hS => ?_
                  refine dy 8 (v := v2553) rfl (by kernel_rfl) (by kernel_rfl) (by kernel_rfl) rfl hQ hS (y_move hS rfl) rfl rfl rfl fun a hS => ?_
                  refine dy 9 (v := .int .i64 g5397) rfl (by kernel_rfl) (by kernel_rfl) (by kernel_rfl) rfl hQ hS (y_move hS rfl) rfl rfl rfl fun a hS => ?_
                  obtain ⟨l5505, hl5505, hM⟩ := bd hM
                  obtain ⟨v5506, hv5507, hy5508⟩ := d_view (R := Rep.str) hS sl65 ty9 1 rfl 2 rfl hl5505
                  refine dy 10 (v := v5506) rfl (by kernel_rfl) (by kernel_rfl) (by kernel_rfl) rfl hQ hS (hy5508 (k1 := .i64) rfl (.inr ⟨rfl, rfl⟩) (.inl ⟨_, rfl, rfl⟩)) rfl rfl rfl fun a hS => ?_
                  have hL := hS
                  replace hL := hL.freeze (R := R_RuleD) 0 rfl 1 rfl
                  replace hL := hL.freeze (R := Rep.str) 0 rfl 3 rfl
                  replace hL := hL.fact (SlF Rep.str v5501 l5500) (hv5502 _ _ (hL.get 0 rfl))
                  obtain ⟨u5510, hu5510, hM⟩ := bd hM
                  refine wpE_one (i := 5) rfl (by kernel_rfl) rfl (k_call hS ci37 rfl rfl (toy_Turn_c _ _ hL.dlt (hL.get 7 rfl) u2502.1 e5191 l5500 _ _ (hL.get 2 rfl) (hL.get 0 rfl) _ hu5510) fun _ w hR a hk hA => ⟨stN (hk), ?_⟩)
                  have he := Eq.symm hR
                  subst he
                  have hS := hA [] (fun r hr => by cases hr) List.Pairwise.nil
                  have hL := hS
                  replace hL := hL.freeze (R := R_RuleD) 0 rfl 1 rfl
                  replace hL := hL.freeze (R := Rep.str) 0 rfl 3 rfl
                  replace hL := hL.fact (SlF Rep.str v5506 l5505) (hv5507 _ _ (hL.get 0 rfl))
                  obtain ⟨u5512, hu5512, hM⟩ := bd hM
                  refine wpE_one (i := 11) rfl (by kernel_rfl) rfl (k_call hS ci38 rfl rfl (ref24_Turn_c _ _ hL.dlt (hL.get 7 rfl) u2502.1 e5191 l5505 _ _ (hL.get 2 rfl) (hL.get 0 rfl) _ hu5512) fun _ w hR a hk hA => ⟨stN (hk), ?_⟩)
                  have he := Eq.symm hR
                  subst he
                  have hS := hA [] (fun r hr => by cases hr) List.Pairwise.nil
                  refine dy 12 (v := .bool (!(u5510.Done == u5512.Done && u5510.Value.toList == u5512.Value.toList && (u5510.Ask.Kind : Int) == u5512.Ask.Kind && u5510.Ask.Text.toList == u5512.Ask.Text.toList))) rfl (by kernel_rfl) (by kernel_rfl) (by kernel_rfl) rfl hQ hS (eq70n hS rfl rfl) rfl rfl rfl fun a hS => ?_
                  refine wpE_done (by kernel_rfl) ?_ _
                  try simp only [Exit.then, Exit.inBlock, ↓reduceIte, Nat.reduceEqDiff]
                  refine hK646 _ _ ?_
                  rcases bool2 (!(u5510.Done == u5512.Done && u5510.Value.toList == u5512.Value.toList && (u5510.Ask.Kind : Int) == u5512.Ask.Kind && u5510.Ask.Text.toList == u5512.Ask.Text.toList)) with hb5514 | hb5514
                  · replace hM := ct hb5514 hM
                    refine c_t hS rfl hb5514 ?_
                    refine wp_seq_k fun K647 hK647 => ?_
                    refine r_list ?_
                    refine wl rfl (ky (v := .bool false) hS (y_assign hS rfl) rfl rfl fun a hS => ?_)
                    refine wpList_nil ?_
                    try simp only [Exit.then, Exit.inBlock, ↓reduceIte, Nat.reduceEqDiff]
                    refine hK647 _ _ ?_
                    refine wp_ret ?_
                    injection hM with hM
                    subst hM
                    have hr := hf2 _ rfl
                    subst hr
                    replace hMo2 := el_out hMo2
                    have hM := hMo2
                    injection hM with hM
                    subst hM
                    have hr := hf1 _ rfl
                    subst hr
                    replace hMo1 := el_out hMo1
                    have hM := hMo1
                    injection hM with hM
                    subst hM
                    try simp only [Exit.then, Exit.inBlock, ↓reduceIte, Nat.reduceEqDiff]
                    refine ret_ok hS Tryd.results8 (res_tmp hS rfl res_nil) ?_
                    exact rfl
                  · replace hM := cf hb5514 hM
                    refine c_f hS rfl hb5514 ?_
                    refine wp_skip ?_
                    try simp only [Exit.then, Exit.inBlock, ↓reduceIte, Nat.reduceEqDiff]
                    refine hK644 _ _ ?_
                    refine r_list ?_
                    refine wl rfl (ky (v := .int .i64 (IntKind.i64.wrap (g5397 + 1))) hS (y_int hS rfl rfl rfl) rfl rfl fun a hS => ?_)
                    refine wl rfl (ky (v := .int .i64 (IntKind.i64.wrap (g5397 + 1))) hS (y_move hS rfl) rfl rfl fun a hS => ?_)
                    refine wpList_nil ?_
                    try simp only [Exit.then, Exit.inBlock, ↓reduceIte, Nat.reduceEqDiff]
                    exact ⟨IntKind.i64.wrap (g5397 + 1), (Option.some.inj hM).symm, (IntKind.i64.wrap (g5397 + 1)), rfl, (hS.meet [0, 1, 2, 3] (by decide) ⟨rfl, rfl, rfl, rfl, rfl, rfl, rfl, rfl, rfl, trivial⟩ ⟨rfl, rfl, rfl, rfl, trivial⟩ ⟨⟨0, rfl⟩, ⟨1, rfl⟩, ⟨2, rfl⟩, ⟨3, rfl⟩, ⟨4, rfl⟩, trivial⟩)⟩
                · replace hM := cf hb5457 hM
                  refine c_f hS rfl hb5457 ?_
                  refine wp_exit ?_
                  try simp only [Exit.then, Exit.inBlock, ↓reduceIte, Nat.reduceEqDiff]
                  injection hM with hM
                  subst hM
                  have hr := hf2 _ rfl
                  subst hr
                  replace hMo2 := el_go hMo2
                  have hM : law24_ToyTurns_j5 answers_ u2502 g4381 g4385 e5191 = some f1 := hMo2
                  exact ⟨(hS.meet [0, 1, 2, 3] (by decide) ⟨rfl, rfl, rfl, rfl, rfl, rfl, rfl, trivial⟩ ⟨rfl, rfl, rfl, rfl, trivial⟩ ⟨⟨0, rfl⟩, ⟨1, rfl⟩, ⟨2, rfl⟩, ⟨3, rfl⟩, ⟨4, rfl⟩, trivial⟩), hM⟩
              · rintro a w ⟨hS, hM⟩
                unfold law24_ToyTurns_j5 at hM
                refine wp_seq_k fun K627 hK627 => ?_
                refine draws [] hS mixed rfl (fun c a d v w h => by cases d <;> exact h) fun w hQ hS => ?_
                refine dy 0 (v := vz2503_3) rfl (by kernel_rfl) (by kernel_rfl) (by kernel_rfl) rfl hQ hS (y_move hS rfl) rfl rfl rfl fun a hS => ?_
                refine dy (l := []) 1 (v := .agg #[.int .i64 e5191.Kind, .string e5191.Text]) rfl (by kernel_rfl) (by kernel_rfl) (by kernel_rfl) (by kernel_rfl) hQ hS (y_load hS rfl ty28 3 rfl eo_nil (us := [.int .i64 e5191.Kind, .string e5191.Text]) rfl rfl (fun h => by cases h)) rfl rfl rfl fun a hS => ?_
                refine dy 2 (v := v2) rfl (by kernel_rfl) (by kernel_rfl) (by kernel_rfl) rfl hQ hS (y_move hS rfl) rfl rfl rfl fun a hS => ?_
                refine dy 4 (v := vz2503_3) rfl (by kernel_rfl) (by kernel_rfl) (by kernel_rfl) rfl hQ hS (y_move hS rfl) rfl rfl rfl fun a hS => ?_
                refine dy (l := []) 5 (v := .agg #[.int .i64 e5191.Kind, .string e5191.Text]) rfl (by kernel_rfl) (by kernel_rfl) (by kernel_rfl) (by kernel_rfl) hQ hS (y_load hS rfl ty28 3 rfl eo_nil (us := [.int .i64 e5191.Kind, .string e5191.Text]) rfl rfl (fun h => by cases h)) rfl rfl rfl fun a hS => ?_
                refine dy 6 (v := v2) rfl (by kernel_rfl) (by kernel_rfl) (by kernel_rfl) rfl hQ hS (y_move hS rfl) rfl rfl rfl fun a hS => ?_
                have hL := hS
                replace hL := hL.freeze (R := R_RuleD) 0 rfl 1 rfl
                obtain ⟨u5333, hu5333, hM⟩ := bd hM
                refine wpE_one (i := 3) rfl (by kernel_rfl) rfl (k_call hS ci37 rfl rfl (toy_Turn_c _ _ hL.dlt (hL.get 5 rfl) u2502.1 e5191 answers_ _ _ (hL.get 0 rfl) (hL.get 1 rfl) _ hu5333) fun _ w hR a hk hA => ⟨stN (hk), ?_⟩)
                have he := Eq.symm hR
                subst he
                have hS := hA [] (fun r hr => by cases hr) List.Pairwise.nil
                have hL := hS
                replace hL := hL.freeze (R := R_RuleD) 0 rfl 1 rfl
                obtain ⟨u5335, hu5335, hM⟩ := bd hM
                refine wpE_one (i := 7) rfl (by kernel_rfl) rfl (k_call hS ci38 rfl rfl (ref24_Turn_c _ _ hL.dlt (hL.get 5 rfl) u2502.1 e5191 answers_ _ _ (hL.get 0 rfl) (hL.get 1 rfl) _ hu5335) fun _ w hR a hk hA => ⟨stN (hk), ?_⟩)
                have he := Eq.symm hR
                subst he
                have hS := hA [] (fun r hr => by cases hr) List.Pairwise.nil
                refine dy 8 (v := .bool (!(u5333.Done == u5335.Done && u5333.Value.toList == u5335.Value.toList && (u5333.Ask.Kind : Int) == u5335.Ask.Kind && u5333.Ask.Text.toList == u5335.Ask.Text.toList))) rfl (by kernel_rfl) (by kernel_rfl) (by kernel_rfl) rfl hQ hS (eq70n hS rfl rfl) rfl rfl rfl fun a hS => ?_
                refine wpE_done (by kernel_rfl) ?_ _
                try simp only [Exit.then, Exit.inBlock, ↓reduceIte, Nat.reduceEqDiff]
                refine hK627 _ _ ?_
                rcases bool2 (!(u5333.Done == u5335.Done && u5333.Value.toList == u5335.Value.toList && (u5333.Ask.Kind : Int) == u5335.Ask.Kind && u5333.Ask.Text.toList == u5335.Ask.Text.toList)) with hb5337 | hb5337
                · replace hM := ct hb5337 hM
                  refine c_t hS rfl hb5337 ?_
                  refine wp_seq_k fun K628 hK628 => ?_
                  refine r_list ?_
                  refine wl rfl (ky (v := .bool false) hS (y_assign hS rfl) rfl rfl fun a hS => ?_)
                  refine wpList_nil ?_
                  try simp only [Exit.then, Exit.inBlock, ↓reduceIte, Nat.reduceEqDiff]
                  refine hK628 _ _ ?_
                  refine wp_ret ?_
                  injection hM with hM
                  subst hM
                  have hr := hf1 _ rfl
                  subst hr
                  replace hMo1 := el_out hMo1
                  have hM := hMo1
                  injection hM with hM
                  subst hM
                  try simp only [Exit.then, Exit.inBlock, ↓reduceIte, Nat.reduceEqDiff]
                  refine ret_ok hS Tryd.results8 (res_tmp hS rfl res_nil) ?_
                  exact rfl
                · replace hM := cf hb5337 hM
                  refine c_f hS rfl hb5337 ?_
                  refine wp_skip ?_
                  try simp only [Exit.then, Exit.inBlock, ↓reduceIte, Nat.reduceEqDiff]
                  exact ⟨(hS.meet [0, 1, 2] (by decide) ⟨rfl, rfl, rfl, rfl, rfl, rfl, trivial⟩ ⟨rfl, rfl, rfl, trivial⟩ ⟨⟨0, rfl⟩, ⟨1, rfl⟩, ⟨2, rfl⟩, ⟨3, rfl⟩, ⟨4, rfl⟩, trivial⟩), hM⟩
            · rintro a w ⟨hS, hM⟩
              unfold law24_ToyTurns_j4 at hM
              refine r_list ?_
              refine wl rfl (ky (v := .int .i64 (IntKind.i64.wrap (g4385 + 1))) hS (y_int hS rfl rfl rfl) rfl rfl fun a hS => ?_)
              refine wl rfl (ky (v := .int .i64 (IntKind.i64.wrap (g4385 + 1))) hS (y_move hS rfl) rfl rfl fun a hS => ?_)
              refine wpList_nil ?_
              try simp only [Exit.then, Exit.inBlock, ↓reduceIte, Nat.reduceEqDiff]
              exact ⟨(g4381, IntKind.i64.wrap (g4385 + 1)), (Option.some.inj hM).symm, g4381, (IntKind.i64.wrap (g4385 + 1)), v4382, cl4383, rfl, (hS.meet [0, 1, 2] (by decide) ⟨rfl, rfl, rfl, rfl, rfl, rfl, trivial⟩ ⟨rfl, rfl, rfl, trivial⟩ ⟨⟨0, rfl⟩, ⟨1, rfl⟩, ⟨2, rfl⟩, ⟨3, rfl⟩, ⟨4, rfl⟩, trivial⟩)⟩
          · replace hM := cf hb4924 hM
            refine c_f hS rfl hb4924 ?_
            refine wp_exit ?_
            try simp only [Exit.then, Exit.inBlock, ↓reduceIte, Nat.reduceEqDiff]
            injection hM with hM
            subst hM
            have hr := hf1 _ rfl
            subst hr
            replace hMo1 := el_go hMo1
            have hM : law24_ToyTurns_j3 answers_ near2552 = some y := hMo1
            exact ⟨(hS.meet [1] (by decide) ⟨rfl, rfl, trivial⟩ ⟨rfl, trivial⟩ ⟨⟨0, rfl⟩, ⟨2, rfl⟩, ⟨4, rfl⟩, trivial⟩), hM⟩
        · rintro a w ⟨hS, hM⟩
          unfold law24_ToyTurns_j3 at hM
          refine seq_j (J := fun a w => St W0 No T 105 [] [] [LvF] a w ∧ law24_ToyTurns_j1 = some y) ?_ ?_
          · skip
            refine wp_seq_k fun K442 hK442 => ?_
            refine r_list ?_
            refine wl rfl (ky (v := v2553) hS (y_move hS rfl) rfl rfl fun a hS => ?_)
            refine wl rfl (ky (v := v2) hS (y_move hS rfl) rfl rfl fun a hS => ?_)
            obtain ⟨hg3734, hM⟩ := gd_some hM
            refine wl rfl (k_apps (R := Rep.str) (xs := near2552) (ys := answers_) hS el65 (by decide) (by decide) rfl rfl 0 rfl 1 rfl 0 rfl hg3734 rfl fun v3735 cl3736 a w hk hS => ?_)
            refine wl rfl (ky (v := .int .i64 ((near2552 ++ answers_).length : Int)) hS (y_leno (R := Rep.str) (xs := (near2552 ++ answers_)) hS sl65 rfl 0 rfl 0 rfl) rfl rfl fun a hS => ?_)
            refine wl rfl (ky (v := .int .i64 0) hS (y_move hS rfl) rfl rfl fun a hS => ?_)
            refine wpList_nil ?_
            try simp only [Exit.then, Exit.inBlock, ↓reduceIte, Nat.reduceEqDiff]
            refine hK442 _ _ ?_
            refine wp_block ?_
            obtain ⟨r1, hl1, hMo1⟩ := bd hM
            refine wp_lp (fun s : Int => law24_ToyTurns_l2 answers_ near2552 s) (fun s a w => ∃ (g3753 : Int), g3753 = s ∧ St W0 No T 105 [(92, v3735), (93, .int .i64 ((near2552 ++ answers_).length : Int)), (94, .int .i64 g3753)] [.own v3735 9 Rep.str.size cl3736] [RowsF Rep.str cl3736 (near2552 ++ answers_), LvF] a w) hl1 ⟨0, rfl, (hS.meet [0] (by decide) ⟨rfl, rfl, rfl, trivial⟩ ⟨rfl, trivial⟩ ⟨⟨0, rfl⟩, ⟨3, rfl⟩, trivial⟩)⟩ ?_
            rintro s a w f1 ⟨g3753, rfl, hS⟩ hM hf1
            have hM : law24_ToyTurns_l2 answers_ near2552 g3753 = some f1 := hM
            unfold law24_ToyTurns_l2 at hM
            refine wp_seq_k fun K455 hK455 => ?_
            refine r_list ?_
            refine wl rfl (ky (v := .bool (decide ((g3753 : Int) < ((near2552 ++ answers_).length : Int)))) hS (y_int hS rfl rfl rfl) rfl rfl fun a hS => ?_)
            refine wpList_nil ?_
            try simp only [Exit.then, Exit.inBlock, ↓reduceIte, Nat.reduceEqDiff]
            refine hK455 _ _ ?_
            refine wp_seq_k fun K456 hK456 => ?_
            rcases bool2 (decide ((g3753 : Int) < ((near2552 ++ answers_).length : Int))) with hb3769 | hb3769
            · replace hM := ct hb3769 hM
              refine c_t hS rfl hb3769 ?_
              refine wp_skip ?_
              try simp only [Exit.then, Exit.inBlock, ↓reduceIte, Nat.reduceEqDiff]
              refine hK456 _ _ ?_
              refine wp_seq_k fun K457 hK457 => ?_
              refine wp_block ?_
              refine wp_seq_k fun K458 hK458 => ?_
              refine r_list ?_
              obtain ⟨e3770, he3770, hM⟩ := bd hM
              refine wl rfl (k_indexo (R := Rep.str) hS sl65 ty9 rfl rfl 0 rfl 0 rfl he3770 rfl fun b3771 o3772 p3777 cs3774 hr3773 hO3775 hC3776 a hS => ?_)
              obtain rfl := hr3773
              refine wl rfl (ky (v := .string e3770) hS (y_loado (k := 0) hS ty9 0 rfl hO3775 hC3776 rfl id (us := [.string e3770]) rfl rfl (fun _ => rfl)) rfl rfl fun a hS => ?_)
              refine wl rfl (ky (v := .string e3770) hS (y_assign hS rfl) rfl rfl fun a hS => ?_)
              refine wpList_nil ?_
              try simp only [Exit.then, Exit.inBlock, ↓reduceIte, Nat.reduceEqDiff]
              refine hK458 _ _ ?_
              refine wp_seq_k fun K459 hK459 => ?_
              refine r_list ?_
              refine wl rfl (ky (v := .string e3770) hS (y_move hS rfl) rfl rfl fun a hS => ?_)
              obtain ⟨u3778, hu3778, hM⟩ := bd hM
              refine wl rfl (k_call hS ci39 rfl rfl (toy_Value_c _ _ hS.dlt (hS.get 1 rfl) e3770 _ hu3778) fun _ w hR a hk hA => ?_)
              have he := Eq.symm hR
              subst he
              have hS := hA [] (fun r hr => by cases hr) List.Pairwise.nil
              refine wl rfl (ky (v := .string e3770) hS (y_move hS rfl) rfl rfl fun a hS => ?_)
              obtain ⟨u3780, hu3780, hM⟩ := bd hM
              refine wl rfl (k_call hS ci40 rfl rfl (ref24_Value_c _ _ hS.dlt e3770 _ hu3780) fun _ w hR a hk hA => ?_)
              have he := Eq.symm hR
              subst he
              have hS := hA [] (fun r hr => by cases hr) List.Pairwise.nil
              refine wl rfl (ky (v := .bool ((u3778 : Int) != u3780)) hS (y_int hS rfl rfl rfl) rfl rfl fun a hS => ?_)
              refine wpList_nil ?_
              try simp only [Exit.then, Exit.inBlock, ↓reduceIte, Nat.reduceEqDiff]
              refine hK459 _ _ ?_
              rcases bool2 ((u3778 : Int) != u3780) with hb3782 | hb3782
              · replace hM := ct hb3782 hM
                refine c_t hS rfl hb3782 ?_
                refine wp_seq_k fun K460 hK460 => ?_
                refine r_list ?_
                refine wl rfl (ky (v := .bool false) hS (y_assign hS rfl) rfl rfl fun a hS => ?_)
                refine wpList_nil ?_
                try simp only [Exit.then, Exit.inBlock, ↓reduceIte, Nat.reduceEqDiff]
                refine hK460 _ _ ?_
                refine wp_ret ?_
                injection hM with hM
                subst hM
                have hr := hf1 _ rfl
                subst hr
                replace hMo1 := el_out hMo1
                have hM := hMo1
                injection hM with hM
                subst hM
                try simp only [Exit.then, Exit.inBlock, ↓reduceIte, Nat.reduceEqDiff]
                refine ret_ok hS Tryd.results8 (res_tmp hS rfl res_nil) ?_
                exact rfl
              · replace hM := cf hb3782 hM
                refine c_f hS rfl hb3782 ?_
                refine wp_skip ?_
                try simp only [Exit.then, Exit.inBlock, ↓reduceIte, Nat.reduceEqDiff]
                refine hK457 _ _ ?_
                refine r_list ?_
                refine wl rfl (ky (v := .int .i64 (IntKind.i64.wrap (g3753 + 1))) hS (y_int hS rfl rfl rfl) rfl rfl fun a hS => ?_)
                refine wl rfl (ky (v := .int .i64 (IntKind.i64.wrap (g3753 + 1))) hS (y_move hS rfl) rfl rfl fun a hS => ?_)
                refine wpList_nil ?_
                try simp only [Exit.then, Exit.inBlock, ↓reduceIte, Nat.reduceEqDiff]
                exact ⟨IntKind.i64.wrap (g3753 + 1), (Option.some.inj hM).symm, (IntKind.i64.wrap (g3753 + 1)), rfl, (hS.meet [0] (by decide) ⟨rfl, rfl, rfl, trivial⟩ ⟨rfl, trivial⟩ ⟨⟨0, rfl⟩, ⟨1, rfl⟩, trivial⟩)⟩
            · replace hM := cf hb3769 hM
              refine c_f hS rfl hb3769 ?_
              refine wp_exit ?_
              try simp only [Exit.then, Exit.inBlock, ↓reduceIte, Nat.reduceEqDiff]
              injection hM with hM
              subst hM
              have hr := hf1 _ rfl
              subst hr
              replace hMo1 := el_go hMo1
              have hM : law24_ToyTurns_j1 = some y := hMo1
              exact ⟨(hS.meet [] (by decide) trivial trivial ⟨⟨1, rfl⟩, trivial⟩), hM⟩
          · rintro a w ⟨hS, hM⟩
            unfold law24_ToyTurns_j1 at hM
            refine wp_seq_k fun K441 hK441 => ?_
            refine r_list ?_
            obtain ⟨u3732, hu3732, hM⟩ := bd hM
            refine wl rfl (k_call hS ci27 rfl rfl (law24_awake_c _ _ hS.dlt (hS.get 0 rfl) _ hu3732) fun _ w hR a hk hA => ?_)
            have he := Eq.symm hR
            subst he
            have hS := hA [] (fun r hr => by cases hr) List.Pairwise.nil
            refine wl rfl (ky (v := .bool u3732) hS (y_assign hS rfl) rfl rfl fun a hS => ?_)
            refine wpList_nil ?_
            try simp only [Exit.then, Exit.inBlock, ↓reduceIte, Nat.reduceEqDiff]
            refine hK441 _ _ ?_
            refine wp_ret ?_
            injection hM with hM
            subst hM
            try simp only [Exit.then, Exit.inBlock, ↓reduceIte, Nat.reduceEqDiff]
            refine ret_ok hS Tryd.results8 (res_tmp hS rfl res_nil) ?_
            exact rfl
end Go.Proofs.YtappkgmbdoiocaaDoor
