/- What functions of the program compute; that they do. -/
import Derived.Test.YtappkgmbdoiocaaDoorTD7
import Derived.Test.YtappkgmbdoiocaaDoorD1
import Derived.Test.YtappkgmbdoiocaaDoorD2
import Derived.Test.YtappkgmbdoiocaaDoorD3
import Derived.Test.YtappkgmbdoiocaaDoorD4
set_option linter.unusedVariables false
set_option linter.unusedSimpArgs false
namespace Go.Proofs.YtappkgmbdoiocaaDoor
open Go.RowKit
noncomputable def law24_ToyRings_j1 : Option Bool := (law24_awake).bind fun u14357 => some (u14357)
noncomputable def law24_ToyRings_j2 (g16741 : Int) (g20315 : (List Int)) (g20317 : Int) : Option (Fl (Int × (List Int) × Int) (Fl (Unit) Bool)) := some (.go (IntKind.i64.wrap (g16741 + 1), g20315, g20317))
noncomputable def law24_ToyRings_j3 (g16741 : Int) (g20481 : (List Int)) (g20483 : Int) (g20983 : Bool) : Option (Fl (Int × (List Int) × Int) (Fl (Unit) Bool)) := cond g20983 (some (.out (.out false))) (law24_ToyRings_j2 g16741 g20481 g20483)
noncomputable def law24_ToyRings_j4 (at_2 : Int) (u9586 : ((List RuleD) × DiceD)) (g16741 : Int) (u20330 : KeyD) (a20473 : (List ByteArray)) (g20481 : (List Int)) (g20483 : Int) (q20889 : Bool) (q20890 : ByteArray) (q20891 : Int) (q20892 : ByteArray) (g20937 : Bool) : Option (Fl (Int × (List Int) × Int) (Fl (Unit) Bool)) := cond g20937 (some (.out (.out false))) ((mill_Mod at_2 (u9586.1.length : Int)).bind fun u20996 => cond ((g16741 : Int) == u20996) (gd (roomB (a20473.length + ([(ByteArray.mk #[55, 55])]).length)) <| (toy_Turn u9586.1 u20330 (a20473 ++ ([(ByteArray.mk #[55, 55])]))).bind fun u21005 => law24_ToyRings_j3 g16741 g20481 g20483 (!(u21005.Done == q20889 && u21005.Value.toList == q20890.toList && (u21005.Ask.Kind : Int) == q20891 && u21005.Ask.Text.toList == q20892.toList))) (law24_ToyRings_j3 g16741 g20481 g20483 false))
noncomputable def law24_ToyRings_j5 (at_2 : Int) (u9586 : ((List RuleD) × DiceD)) (g16741 : Int) (e20318 : RuleD) (u20330 : KeyD) (a20473 : (List ByteArray)) (g20481 : (List Int)) (g20483 : Int) (q20889 : Bool) (q20890 : ByteArray) (q20891 : Int) (q20892 : ByteArray) (p20893 : Bool) (p20894 : ByteArray) (p20895 : Int) (p20896 : ByteArray) : Option (Fl (Int × (List Int) × Int) (Fl (Unit) Bool)) := (toy_Value q20890).bind fun u20909 => (toy_Value p20894).bind fun u20911 => cond (!(q20889)) (law24_ToyRings_j4 at_2 u9586 g16741 u20330 a20473 g20481 g20483 q20889 q20890 q20891 q20892 true) (cond (!(p20893)) (law24_ToyRings_j4 at_2 u9586 g16741 u20330 a20473 g20481 g20483 q20889 q20890 q20891 q20892 true) ((itoaM u20909).bind fun u21015 => cond (!(u21015.toList == q20890.toList)) (law24_ToyRings_j4 at_2 u9586 g16741 u20330 a20473 g20481 g20483 q20889 q20890 q20891 q20892 true) (cond e20318.Ring (law24_ToyRings_j4 at_2 u9586 g16741 u20330 a20473 g20481 g20483 q20889 q20890 q20891 q20892 ((ibit .and .i64 u20909 u20911 : Int) != u20909)) (law24_ToyRings_j4 at_2 u9586 g16741 u20330 a20473 g20481 g20483 q20889 q20890 q20891 q20892 false))))
noncomputable def law24_ToyRings_j6 (at_2 : Int) (u9586 : ((List RuleD) × DiceD)) (g16741 : Int) (e20318 : RuleD) (u20330 : KeyD) (a20473 : (List ByteArray)) (b20477 : (List ByteArray)) (g20481 : (List Int)) (g20483 : Int) : Option (Fl (Int × (List Int) × Int) (Fl (Unit) Bool)) := (toy_Turn u9586.1 u20330 a20473).bind fun u21032 => (toy_Turn u9586.1 u20330 b20477).bind fun u21034 => law24_ToyRings_j5 at_2 u9586 g16741 e20318 u20330 a20473 g20481 g20483 u21032.Done u21032.Value u21032.Ask.Kind u21032.Ask.Text u21034.Done u21034.Value u21034.Ask.Kind u21034.Ask.Text
noncomputable def law24_ToyRings_j7 (g21219 : Int) (g21514 : Bool) : Option (Fl (Int) (Fl (Unit) Bool)) := cond g21514 (some (.out (.out false))) (some (.go (IntKind.i64.wrap (g21219 + 1))))
noncomputable def law24_ToyRings_j8 (e20318 : RuleD) (g21219 : Int) (q21490 : Bool) (q21491 : ByteArray) (q21492 : Int) (q21493 : ByteArray) (p21494 : Bool) (p21495 : ByteArray) (p21496 : Int) (p21497 : ByteArray) : Option (Fl (Int) (Fl (Unit) Bool)) := cond q21490 (law24_ToyRings_j7 g21219 true) (cond p21494 (law24_ToyRings_j7 g21219 true) (cond e20318.Ring (cond (!((q21492 : Int) == p21496 && q21493.toList == p21497.toList)) (law24_ToyRings_j7 g21219 true) ((ref23_Valid (KeyD.mk q21492 q21493)).bind fun u21520 => law24_ToyRings_j7 g21219 (!(u21520)))) ((ref23_Valid (KeyD.mk q21492 q21493)).bind fun u21522 => law24_ToyRings_j7 g21219 (!(u21522)))))
noncomputable def law24_ToyRings_l9 (u9586 : ((List RuleD) × DiceD)) (e20318 : RuleD) (u20330 : KeyD) (a20473 : (List ByteArray)) (b20477 : (List ByteArray)) (g21219 : Int) : Option (Fl (Int) (Fl (Unit) Bool)) := cond (decide ((g21219 : Int) < (e20318.Asks.length : Int))) ((subI a20473 0 g21219).bind fun l21545 => (subI b20477 0 g21219).bind fun l21552 => (toy_Turn u9586.1 u20330 l21545).bind fun u21557 => (toy_Turn u9586.1 u20330 l21552).bind fun u21559 => law24_ToyRings_j8 e20318 g21219 u21557.Done u21557.Value u21557.Ask.Kind u21557.Ask.Text u21559.Done u21559.Value u21559.Ask.Kind u21559.Ask.Text) (some (.out (.go ())))
noncomputable def law24_ToyRings_j10 (at_2 : Int) (u9586 : ((List RuleD) × DiceD)) (g16741 : Int) (e20318 : RuleD) (u20330 : KeyD) (a20473 : (List ByteArray)) (b20477 : (List ByteArray)) (g20481 : (List Int)) (g20483 : Int) : Option (Fl (Int × (List Int) × Int) (Fl (Unit) Bool)) := (loop (fun s : Int => law24_ToyRings_l9 u9586 e20318 u20330 a20473 b20477 s) 0).bind fun r => Fl.el r (fun s => law24_ToyRings_j6 at_2 u9586 g16741 e20318 u20330 a20473 b20477 g20481 g20483) (fun y => some (.out (.out y)))
noncomputable def law24_ToyRings_l11 (more_ : Int) (e20318 : RuleD) (a21608 : (List ByteArray)) (b21612 : (List ByteArray)) (g21616 : Int) (g21617 : (List Int)) (g21619 : Int) : Option (Fl ((List ByteArray) × (List ByteArray) × Int × (List Int) × Int) ((List ByteArray) × (List ByteArray) × (List Int) × Int)) := cond (decide ((g21616 : Int) < (e20318.Asks.length : Int))) ((dice_Next (DiceD.mk g21617 g21619) 64).bind fun u21660 => (itoaM u21660.1).bind fun u21662 => (mill_Mod more_ 64).bind fun u21664 => (itoaM (ibit .or .i64 u21660.1 u21664)).bind fun u21666 => (getI a21608 g21616).bind fun e21668 => (getI b21612 g21616).bind fun e21677 => some (.go ((a21608.set (Int.toNat g21616) u21662), (b21612.set (Int.toNat g21616) u21666), IntKind.i64.wrap (g21616 + 1), u21660.2.L, u21660.2.At))) (some (.out (a21608, b21612, g21617, g21619)))
noncomputable def law24_ToyRings_j12 (more_ : Int) (at_2 : Int) (u9586 : ((List RuleD) × DiceD)) (g16741 : Int) (g16742 : (List Int)) (g16744 : Int) (e20318 : RuleD) (u20330 : KeyD) (a20375 : (List ByteArray)) (b20379 : (List ByteArray)) : Option (Fl (Int × (List Int) × Int) (Fl (Unit) Bool)) := (loop (fun s : (List ByteArray) × (List ByteArray) × Int × (List Int) × Int => law24_ToyRings_l11 more_ e20318 s.1 s.2.1 s.2.2.1 s.2.2.2.1 s.2.2.2.2) (a20375, b20379, 0, g16742, g16744)).bind fun r => law24_ToyRings_j10 at_2 u9586 g16741 e20318 u20330 r.1 r.2.1 r.2.2.1 r.2.2.2
noncomputable def law24_ToyRings_l13 (more_ : Int) (at_2 : Int) (u9586 : ((List RuleD) × DiceD)) (g16741 : Int) (g16742 : (List Int)) (g16744 : Int) : Option (Fl (Int × (List Int) × Int) (Fl (Unit) Bool)) := cond (decide ((g16741 : Int) < (u9586.1.length : Int))) ((getI u9586.1 g16741).bind fun e20318 => (ref23_Of u9586.1 g16741).bind fun u20330 => gd (decide (0 ≤ (e20318.Asks.length : Int))) <| gd (roomB (Int.toNat (e20318.Asks.length : Int))) <| gd (decide (0 ≤ (e20318.Asks.length : Int))) <| gd (roomB (Int.toNat (e20318.Asks.length : Int))) <| law24_ToyRings_j12 more_ at_2 u9586 g16741 g16742 g16744 e20318 u20330 (List.replicate (Int.toNat (e20318.Asks.length : Int)) (ByteArray.mk #[])) (List.replicate (Int.toNat (e20318.Asks.length : Int)) (ByteArray.mk #[]))) (some (.out (.go ())))
noncomputable def law24_ToyRings (t_0 : (List Int)) (more_ : Int) (at_2 : Int) : Option Bool := (mill_Light t_0).bind fun u9578 => cond (!(u9578)) ((law24_awake).bind fun u9581 => some (u9581)) ((mill_Roll t_0).bind fun u9583 => (mill_Rules u9583).bind fun u9586 => (loop (fun s : Int × (List Int) × Int => law24_ToyRings_l13 more_ at_2 u9586 s.1 s.2.1 s.2.2) (0, u9586.2.L, u9586.2.At)).bind fun r => Fl.el r (fun s => law24_ToyRings_j1) (fun y => some (y)))
set_option maxRecDepth 100000 in
set_option maxHeartbeats 4000000 in
theorem law24_ToyRings_c (T : Nat → Prop) (W0 : World) (hT : ∀ k, T k → k < W0.heap.size) (hLv : LvP T W0) (t_0 : (List Int)) (more_ : Int) (at_2 : Int) (v1 : Value) (hv1 : SlR (Rep.int .i64) T W0 v1 t_0) (y : Bool) (hM : law24_ToyRings t_0 more_ at_2 = some y) : Rets Tryd.prog No 9 [v1, .int .i64 more_, .int .i64 at_2] W0 (fun v w' => v = .bool y) := by
  refine enter (c := _) Tryd.func9 rfl T 167 Tryd.ntmps9 hT rfl fun a hS => ?_
  replace hS := hS.fact LvF (LvP.dn hLv)
  replace hS := hS.fact (SlF (Rep.int .i64) v1 t_0) (SlR.dn hv1)
  unfold law24_ToyRings at hM
  refine wp_seq_k fun K426 hK426 => ?_
  refine r_list ?_
  refine wl rfl (ky (v := .bool false) hS (y_assign hS rfl) rfl rfl fun a hS => ?_)
  refine wpList_nil ?_
  try simp only [Exit.then, Exit.inBlock, ↓reduceIte, Nat.reduceEqDiff]
  refine hK426 _ _ ?_
  refine wp_seq_k fun K427 hK427 => ?_
  refine wp_seq_k fun K428 hK428 => ?_
  refine r_list ?_
  refine wl rfl (ky (v := v1) hS (y_move hS rfl) rfl rfl fun a hS => ?_)
  obtain ⟨u9578, hu9578, hM⟩ := bd hM
  refine wl rfl (k_call hS ci26 rfl rfl (mill_Light_c _ _ hS.dlt t_0 _ (hS.get 0 rfl) _ hu9578) fun _ w hR a hk hA => ?_)
  have he := Eq.symm hR
  subst he
  have hS := hA [] (fun r hr => by cases hr) List.Pairwise.nil
  refine wl rfl (ky (v := .bool (!(u9578))) hS (y_not hS rfl) rfl rfl fun a hS => ?_)
  refine wpList_nil ?_
  try simp only [Exit.then, Exit.inBlock, ↓reduceIte, Nat.reduceEqDiff]
  refine hK428 _ _ ?_
  rcases bool2 (!(u9578)) with hb9580 | hb9580
  · replace hM := ct hb9580 hM
    refine c_t hS rfl hb9580 ?_
    refine wp_seq_k fun K429 hK429 => ?_
    refine r_list ?_
    obtain ⟨u9581, hu9581, hM⟩ := bd hM
    refine wl rfl (k_call hS ci27 rfl rfl (law24_awake_c _ _ hS.dlt (hS.get 1 rfl) _ hu9581) fun _ w hR a hk hA => ?_)
    have he := Eq.symm hR
    subst he
    have hS := hA [] (fun r hr => by cases hr) List.Pairwise.nil
    refine wl rfl (ky (v := .bool u9581) hS (y_assign hS rfl) rfl rfl fun a hS => ?_)
    refine wpList_nil ?_
    try simp only [Exit.then, Exit.inBlock, ↓reduceIte, Nat.reduceEqDiff]
    refine hK429 _ _ ?_
    refine wp_ret ?_
    injection hM with hM
    subst hM
    try simp only [Exit.then, Exit.inBlock, ↓reduceIte, Nat.reduceEqDiff]
    refine ret_ok hS Tryd.results9 (res_tmp hS rfl res_nil) ?_
    exact rfl
  · replace hM := cf hb9580 hM
    refine c_f hS rfl hb9580 ?_
    refine wp_skip ?_
    try simp only [Exit.then, Exit.inBlock, ↓reduceIte, Nat.reduceEqDiff]
    refine hK427 _ _ ?_
    refine wp_seq_k fun K430 hK430 => ?_
    refine r_list ?_
    refine wl rfl (ky (v := v1) hS (y_move hS rfl) rfl rfl fun a hS => ?_)
    obtain ⟨u9583, hu9583, hM⟩ := bd hM
    refine wl rfl (k_call hS ci29 rfl rfl (mill_Roll_c _ _ hS.dlt t_0 _ (hS.get 0 rfl) _ hu9583) fun _ w hR a hk hA => ?_)
    obtain ⟨bz9584_2, vz9584_3, he, hFbz9584_2, hObz9584_2, hRvz9584_3⟩ := hR
    replace he := he.symm
    subst he
    have hS := hA [.box bz9584_2 [vz9584_3, .int .i64 u9583.At] 84] (adds1 hObz9584_2 (fun k hk => by simp only [Res.dom, Option.some.injEq] at hk; omega)) (pw1 _)
    replace hS := hS.fact (SlF (Rep.int .i64) vz9584_3 u9583.L) (hRvz9584_3.sub (dT_dT _))
    refine wl rfl (ky (v := .pointer (some ⟨bz9584_2, 0, none⟩)) hS (y_assign hS rfl) rfl rfl fun a hS => ?_)
    refine wpList_nil ?_
    try simp only [Exit.then, Exit.inBlock, ↓reduceIte, Nat.reduceEqDiff]
    refine hK430 _ _ ?_
    refine wp_seq_k fun K431 hK431 => ?_
    refine r_list ?_
    refine wl rfl (ky (v := .pointer (some ⟨bz9584_2, 0, none⟩)) hS (y_move hS rfl) rfl rfl fun a hS => ?_)
    obtain ⟨u9586, hu9586, hM⟩ := bd hM
    refine wl rfl (k_callmr hS ci28 rfl rfl 0 rfl (mill_Rules_c _ _ (hS.drop 0).dlt u9583 _ _ (hS.boxRow 0 rfl) (hS.notin 0 rfl) (SlR.lent (i := 0) rfl (hS.get 0 rfl)) _ hu9586) fun _ w hR hk => ?_)
    obtain ⟨vz9587_3, clz9587_4, vz9587_5, he, ⟨hOvz9587_3, hFvz9587_3, hRvz9587_3⟩, hrow, hRvz9587_5⟩ := hR
    replace he := he.symm
    subst he
    refine ⟨[vz9587_5, .int .i64 u9586.2.At], [.own vz9587_3 53 R_RuleD.size clz9587_4], hrow, adds1 ⟨hOvz9587_3, by decide⟩ hFvz9587_3, pw1 _, fun a hS => ?_⟩
    replace hS := hS.fact (RowsF R_RuleD clz9587_4 u9586.1) (hRvz9587_3.keep (Kt.refl _ _) (Nw.back2 (i := 0) rfl [.own vz9587_3 53 R_RuleD.size clz9587_4] _))
    replace hS := hS.fact (SlF (Rep.int .i64) vz9587_5 u9586.2.L) (hRvz9587_5.sub (Nw.back2 (i := 0) rfl [.own vz9587_3 53 R_RuleD.size clz9587_4] _))
    refine wl rfl (ky (v := vz9587_3) hS (y_assign hS rfl) rfl rfl fun a hS => ?_)
    refine wpList_nil ?_
    try simp only [Exit.then, Exit.inBlock, ↓reduceIte, Nat.reduceEqDiff]
    refine hK431 _ _ ?_
    refine seq_j (J := fun a w => St W0 No T 167 [] [] [LvF] a w ∧ law24_ToyRings_j1 = some y) ?_ ?_
    · skip
      refine wp_seq_k fun K642 hK642 => ?_
      refine r_list ?_
      refine wl rfl (ky (v := vz9587_3) hS (y_move hS rfl) rfl rfl fun a hS => ?_)
      refine wl rfl (ky (v := .int .i64 (u9586.1.length : Int)) hS (y_leno (R := R_RuleD) (xs := u9586.1) hS sl49 rfl 0 rfl 1 rfl) rfl rfl fun a hS => ?_)
      refine wl rfl (ky (v := .int .i64 0) hS (y_move hS rfl) rfl rfl fun a hS => ?_)
      refine wpList_nil ?_
      try simp only [Exit.then, Exit.inBlock, ↓reduceIte, Nat.reduceEqDiff]
      refine hK642 _ _ ?_
      refine wp_block ?_
      obtain ⟨r1, hl1, hMo1⟩ := bd hM
      refine wp_lp (fun s : Int × (List Int) × Int => law24_ToyRings_l13 more_ at_2 u9586 s.1 s.2.1 s.2.2) (fun s a w => ∃ (g16741 : Int) (g16742 : (List Int)) (g16744 : Int) (v16743 : Value), (g16741, g16742, g16744) = s ∧ St W0 No T 167 [(1, .int .i64 more_), (2, .int .i64 at_2), (7, .pointer (some ⟨bz9584_2, 0, none⟩)), (8, vz9587_3), (32, vz9587_3), (33, .int .i64 (u9586.1.length : Int)), (34, .int .i64 g16741)] [.own vz9587_3 53 R_RuleD.size clz9587_4, .box bz9584_2 [v16743, .int .i64 g16744] 84] [RowsF R_RuleD clz9587_4 u9586.1, SlF (Rep.int .i64) v16743 g16742, LvF] a w) hl1 ⟨0, u9586.2.L, u9586.2.At, vz9587_5, rfl, (hS.meet [0, 1] (by decide) ⟨rfl, rfl, rfl, rfl, rfl, rfl, rfl, trivial⟩ ⟨rfl, rfl, trivial⟩ ⟨⟨1, rfl⟩, ⟨0, rfl⟩, ⟨4, rfl⟩, trivial⟩)⟩ ?_
      rintro s a w f1 ⟨g16741, g16742, g16744, v16743, rfl, hS⟩ hM hf1
      have hM : law24_ToyRings_l13 more_ at_2 u9586 g16741 g16742 g16744 = some f1 := hM
      unfold law24_ToyRings_l13 at hM
      refine wp_seq_k fun K851 hK851 => ?_
      refine r_list ?_
      refine wl rfl (ky (v := .bool (decide ((g16741 : Int) < (u9586.1.length : Int)))) hS (y_int hS rfl rfl rfl) rfl rfl fun a hS => ?_)
      refine wpList_nil ?_
      try simp only [Exit.then, Exit.inBlock, ↓reduceIte, Nat.reduceEqDiff]
      refine hK851 _ _ ?_
      refine wp_seq_k fun K852 hK852 => ?_
      rcases bool2 (decide ((g16741 : Int) < (u9586.1.length : Int))) with hb19127 | hb19127
      · replace hM := ct hb19127 hM
        refine c_t hS rfl hb19127 ?_
        refine wp_skip ?_
        try simp only [Exit.then, Exit.inBlock, ↓reduceIte, Nat.reduceEqDiff]
        refine hK852 _ _ ?_
        refine seq_j (J := fun a w => ∃ (g20315 : (List Int)) (g20317 : Int) (v20316 : Value), St W0 No T 167 [(1, .int .i64 more_), (2, .int .i64 at_2), (7, .pointer (some ⟨bz9584_2, 0, none⟩)), (8, vz9587_3), (32, vz9587_3), (33, .int .i64 (u9586.1.length : Int)), (34, .int .i64 g16741)] [.own vz9587_3 53 R_RuleD.size clz9587_4, .box bz9584_2 [v20316, .int .i64 g20317] 84] [RowsF R_RuleD clz9587_4 u9586.1, SlF (Rep.int .i64) v20316 g20315, LvF] a w ∧ law24_ToyRings_j2 g16741 g20315 g20317 = some f1) ?_ ?_
        · skip
          refine wp_block ?_
          refine wp_seq_k fun K904 hK904 => ?_
          refine r_list ?_
          refine wl rfl (ky (v := .int .i64 g16741) hS (y_move hS rfl) rfl rfl fun a hS => ?_)
          obtain ⟨e20318, he20318, hM⟩ := bd hM
          refine wl rfl (k_indexo (R := R_RuleD) hS sl49 ty53 rfl rfl 0 rfl 0 rfl he20318 rfl fun b20320 o20321 p20326 cs20323 hr20322 hO20324 hC20325 a hS => ?_)
          obtain ⟨v20319, rfl, hv20319⟩ := hr20322
          replace hS := hS.fact (SlF R_AskD v20319 e20318.Asks) hv20319
          refine wl rfl (ky (v := .agg #[.bool e20318.Ring, v20319, .int .i64 e20318.Final, .int .i64 e20318.C]) hS (y_loado (k := 0) hS ty53 0 rfl hO20324 hC20325 rfl id (us := [.bool e20318.Ring, v20319, .int .i64 e20318.Final, .int .i64 e20318.C]) rfl rfl (fun h => by cases h)) rfl rfl fun a hS => ?_)
          refine wl rfl (k_alloc hS ze53 rfl fun b20327 hnb20329 a w hk hS => ?_)
          refine wl rfl (ky (v := .int .i64 g16741) hS (y_assign hS rfl) rfl rfl fun a hS => ?_)
          refine wl rfl (k_store hS rfl rfl (us := [.bool e20318.Ring, v20319, .int .i64 e20318.Final, .int .i64 e20318.C]) rfl ty53 0 rfl rfl rfl (oc rfl (oc (SlR.one ((hS.get 0 rfl) : SlR R_AskD _ _ _ _)) (oc rfl (oc rfl on)))) fun w hk hS => ?_)
          refine wpList_nil ?_
          try simp only [Exit.then, Exit.inBlock, ↓reduceIte, Nat.reduceEqDiff]
          refine hK904 _ _ ?_
          refine wp_seq_k fun K905 hK905 => ?_
          refine r_list ?_
          refine wl rfl (ky (v := vz9587_3) hS (y_move hS rfl) rfl rfl fun a hS => ?_)
          refine wl rfl (ky (v := .int .i64 g16741) hS (y_move hS rfl) rfl rfl fun a hS => ?_)
          have hL := hS
          replace hL := hL.freeze (R := R_RuleD) 1 rfl 1 rfl
          obtain ⟨u20330, hu20330, hM⟩ := bd hM
          refine wl rfl (k_call hS ci35 rfl rfl (ref23_Of_c _ _ hL.dlt (hL.get 4 rfl) u9586.1 g16741 _ (hL.get 0 rfl) _ hu20330) fun _ w hR a hk hA => ?_)
          have he := Eq.symm hR
          subst he
          have hS := hA [] (fun r hr => by cases hr) List.Pairwise.nil
          refine wl rfl (k_alloc hS ze28 rfl fun b20332 hnb20334 a w hk hS => ?_)
          refine wl rfl (k_store hS rfl rfl (us := [.int .i64 u20330.Kind, .string u20330.Text]) rfl ty28 0 rfl rfl rfl (oc rfl (oc rfl on)) fun w hk hS => ?_)
          refine wpList_nil ?_
          try simp only [Exit.then, Exit.inBlock, ↓reduceIte, Nat.reduceEqDiff]
          refine hK905 _ _ ?_
          refine wp_seq_k fun K906 hK906 => ?_
          refine r_list ?_
          refine wl rfl (ky (v := .pointer (some ⟨b20327, 0 + 1, none⟩)) hS (y_fld hS rfl fl53_1) rfl rfl fun a hS => ?_)
          refine wl rfl (ky (v := v20319) hS (y_load hS rfl ty51 1 rfl id (us := [v20319]) rfl rfl (fun _ => rfl)) rfl rfl fun a hS => ?_)
          refine wl rfl (ky (v := .int .i64 (e20318.Asks.length : Int)) hS (y_len (R := R_AskD) (xs := e20318.Asks) hS sl51 rfl 0 rfl) rfl rfl fun a hS => ?_)
          refine wl rfl (ky (v := .int .i64 (e20318.Asks.length : Int)) hS (y_assign hS rfl) rfl rfl fun a hS => ?_)
          refine wpList_nil ?_
          try simp only [Exit.then, Exit.inBlock, ↓reduceIte, Nat.reduceEqDiff]
          refine hK906 _ _ ?_
          refine seq_j (J := fun a w => ∃ (a20375 : (List ByteArray)) (b20379 : (List ByteArray)) (v20376 : Value) (cl20377 : (List Value)) (v20380 : Value) (cl20381 : (List Value)), St W0 No T 167 [(1, .int .i64 more_), (2, .int .i64 at_2), (7, .pointer (some ⟨bz9584_2, 0, none⟩)), (8, vz9587_3), (9, .int .i64 g16741), (10, .pointer (some ⟨b20327, 0, none⟩)), (11, .pointer (some ⟨b20332, 0, none⟩)), (12, .int .i64 (e20318.Asks.length : Int)), (13, v20376), (14, v20380), (32, vz9587_3), (33, .int .i64 (u9586.1.length : Int)), (34, .int .i64 g16741)] [.own vz9587_3 53 R_RuleD.size clz9587_4, .own v20376 9 Rep.str.size cl20377, .own v20380 9 Rep.str.size cl20381, .box bz9584_2 [v16743, .int .i64 g16744] 84, .box b20327 [.bool e20318.Ring, v20319, .int .i64 e20318.Final, .int .i64 e20318.C] 53, .box b20332 [.int .i64 u20330.Kind, .string u20330.Text] 28] [RowsF R_RuleD clz9587_4 u9586.1, RowsF Rep.str cl20377 a20375, RowsF Rep.str cl20381 b20379, SlF (Rep.int .i64) v16743 g16742, SlF R_AskD v20319 e20318.Asks, LvF] a w ∧ law24_ToyRings_j12 more_ at_2 u9586 g16741 g16742 g16744 e20318 u20330 a20375 b20379 = some f1) ?_ ?_
          · skip
            refine draws [] hS mixed rfl (fun c a d v w h => by cases d <;> exact h) fun w hQ hS => ?_
            refine dy 0 (v := .int .i64 (e20318.Asks.length : Int)) rfl (by kernel_rfl) (by kernel_rfl) (by kernel_rfl) rfl hQ hS (y_move hS rfl) rfl rfl rfl fun a hS => ?_
            refine dy 2 (v := .int .i64 (e20318.Asks.length : Int)) rfl (by kernel_rfl) (by kernel_rfl) (by kernel_rfl) rfl hQ hS (y_move hS rfl) rfl rfl rfl fun a hS => ?_
            obtain ⟨hg21696, hM⟩ := gd_some hM
            obtain ⟨hg21697, hM⟩ := gd_some hM
            obtain ⟨hg21698, hM⟩ := gd_some hM
            obtain ⟨hg21699, hM⟩ := gd_some hM
            refine wpE_two (i := 1) (j := 3) rfl rfl (by kernel_rfl) rfl rfl ?_ ?_
            · skip
              refine id (k_make (R := Rep.str) (z0 := (ByteArray.mk #[])) hS el65 ze9 (by decide) rfl rfl hg21696 hg21697 rfl rfl fun v21700 cl21701 a w hk hS => ⟨stN (hk), ?_⟩)
              refine dy 4 (v := v21700) rfl (by kernel_rfl) (by kernel_rfl) (by kernel_rfl) rfl hQ hS (y_assign hS rfl) rfl rfl rfl fun a hS => ?_
              refine wpE_one (i := 3) rfl (by kernel_rfl) rfl (k_make (R := Rep.str) (z0 := (ByteArray.mk #[])) hS el65 ze9 (by decide) rfl rfl hg21698 hg21699 rfl rfl fun v21703 cl21704 a w hk hS => ⟨stN (hk), ?_⟩)
              refine dy 5 (v := v21703) rfl (by kernel_rfl) (by kernel_rfl) (by kernel_rfl) rfl hQ hS (y_assign hS rfl) rfl rfl rfl fun a hS => ?_
              refine wpE_done (by kernel_rfl) ?_ _
              try simp only [Exit.then, Exit.inBlock, ↓reduceIte, Nat.reduceEqDiff]
              exact ⟨(List.replicate (Int.toNat (e20318.Asks.length : Int)) (ByteArray.mk #[])), (List.replicate (Int.toNat (e20318.Asks.length : Int)) (ByteArray.mk #[])), v21700, cl21701, v21703, cl21704, (hS.meet [4, 1, 0, 5, 3, 2] (by decide) ⟨rfl, rfl, rfl, rfl, rfl, rfl, rfl, rfl, rfl, rfl, rfl, rfl, rfl, trivial⟩ ⟨rfl, rfl, rfl, rfl, rfl, rfl, trivial⟩ ⟨⟨3, rfl⟩, ⟨1, rfl⟩, ⟨0, rfl⟩, ⟨4, rfl⟩, ⟨2, rfl⟩, ⟨5, rfl⟩, trivial⟩), hM⟩
            · skip
              refine id (k_make (R := Rep.str) (z0 := (ByteArray.mk #[])) hS el65 ze9 (by decide) rfl rfl hg21698 hg21699 rfl rfl fun v21700 cl21701 a w hk hS => ⟨stN (hk), ?_⟩)
              refine wpE_one (i := 1) rfl (by kernel_rfl) rfl (k_make (R := Rep.str) (z0 := (ByteArray.mk #[])) hS el65 ze9 (by decide) rfl rfl hg21696 hg21697 rfl rfl fun v21703 cl21704 a w hk hS => ⟨stN (hk), ?_⟩)
              refine dy 4 (v := v21703) rfl (by kernel_rfl) (by kernel_rfl) (by kernel_rfl) rfl hQ hS (y_assign hS rfl) rfl rfl rfl fun a hS => ?_
              refine dy 5 (v := v21700) rfl (by kernel_rfl) (by kernel_rfl) (by kernel_rfl) rfl hQ hS (y_assign hS rfl) rfl rfl rfl fun a hS => ?_
              refine wpE_done (by kernel_rfl) ?_ _
              try simp only [Exit.then, Exit.inBlock, ↓reduceIte, Nat.reduceEqDiff]
              exact ⟨(List.replicate (Int.toNat (e20318.Asks.length : Int)) (ByteArray.mk #[])), (List.replicate (Int.toNat (e20318.Asks.length : Int)) (ByteArray.mk #[])), v21703, cl21704, v21700, cl21701, (hS.meet [4, 0, 1, 5, 3, 2] (by decide) ⟨rfl, rfl, rfl, rfl, rfl, rfl, rfl, rfl, rfl, rfl, rfl, rfl, rfl, trivial⟩ ⟨rfl, rfl, rfl, rfl, rfl, rfl, trivial⟩ ⟨⟨3, rfl⟩, ⟨0, rfl⟩, ⟨1, rfl⟩, ⟨4, rfl⟩, ⟨2, rfl⟩, ⟨5, rfl⟩, trivial⟩), hM⟩
          · rintro a w ⟨a20375, b20379, v20376, cl20377, v20380, cl20381, hS, hM⟩
            unfold law24_ToyRings_j12 at hM
            refine seq_j (J := fun a w => ∃ (a20473 : (List ByteArray)) (b20477 : (List ByteArray)) (g20481 : (List Int)) (g20483 : Int) (v20474 : Value) (cl20475 : (List Value)) (v20478 : Value) (cl20479 : (List Value)) (v20482 : Value), St W0 No T 167 [(1, .int .i64 more_), (2, .int .i64 at_2), (7, .pointer (some ⟨bz9584_2, 0, none⟩)), (8, vz9587_3), (9, .int .i64 g16741), (10, .pointer (some ⟨b20327, 0, none⟩)), (11, .pointer (some ⟨b20332, 0, none⟩)), (12, .int .i64 (e20318.Asks.length : Int)), (13, v20474), (14, v20478), (32, vz9587_3), (33, .int .i64 (u9586.1.length : Int)), (34, .int .i64 g16741)] [.own vz9587_3 53 R_RuleD.size clz9587_4, .own v20474 9 Rep.str.size cl20475, .own v20478 9 Rep.str.size cl20479, .box bz9584_2 [v20482, .int .i64 g20483] 84, .box b20327 [.bool e20318.Ring, v20319, .int .i64 e20318.Final, .int .i64 e20318.C] 53, .box b20332 [.int .i64 u20330.Kind, .string u20330.Text] 28] [RowsF R_RuleD clz9587_4 u9586.1, RowsF Rep.str cl20475 a20473, RowsF Rep.str cl20479 b20477, SlF (Rep.int .i64) v20482 g20481, SlF R_AskD v20319 e20318.Asks, LvF] a w ∧ law24_ToyRings_j10 at_2 u9586 g16741 e20318 u20330 a20473 b20477 g20481 g20483 = some f1) ?_ ?_
            · skip
              refine wp_seq_k fun K949 hK949 => ?_
              refine r_list ?_
              refine wl rfl (ky (v := .int .i64 (e20318.Asks.length : Int)) hS (y_move hS rfl) rfl rfl fun a hS => ?_)
              refine wl rfl (ky (v := .int .i64 0) hS (y_move hS rfl) rfl rfl fun a hS => ?_)
              refine wpList_nil ?_
              try simp only [Exit.then, Exit.inBlock, ↓reduceIte, Nat.reduceEqDiff]
              refine hK949 _ _ ?_
              refine wp_block ?_
              obtain ⟨r2, hl2, hMo2⟩ := bd hM
              refine wp_lp (fun s : (List ByteArray) × (List ByteArray) × Int × (List Int) × Int => law24_ToyRings_l11 more_ e20318 s.1 s.2.1 s.2.2.1 s.2.2.2.1 s.2.2.2.2) (fun s a w => ∃ (a21608 : (List ByteArray)) (b21612 : (List ByteArray)) (g21616 : Int) (g21617 : (List Int)) (g21619 : Int) (v21609 : Value) (cl21610 : (List Value)) (v21613 : Value) (cl21614 : (List Value)) (v21618 : Value), (a21608, b21612, g21616, g21617, g21619) = s ∧ St W0 No T 167 [(1, .int .i64 more_), (2, .int .i64 at_2), (7, .pointer (some ⟨bz9584_2, 0, none⟩)), (8, vz9587_3), (9, .int .i64 g16741), (10, .pointer (some ⟨b20327, 0, none⟩)), (11, .pointer (some ⟨b20332, 0, none⟩)), (12, .int .i64 (e20318.Asks.length : Int)), (13, v21609), (14, v21613), (32, vz9587_3), (33, .int .i64 (u9586.1.length : Int)), (34, .int .i64 g16741), (49, .int .i64 (e20318.Asks.length : Int)), (50, .int .i64 g21616)] [.own vz9587_3 53 R_RuleD.size clz9587_4, .own v21609 9 Rep.str.size cl21610, .own v21613 9 Rep.str.size cl21614, .box bz9584_2 [v21618, .int .i64 g21619] 84, .box b20327 [.bool e20318.Ring, v20319, .int .i64 e20318.Final, .int .i64 e20318.C] 53, .box b20332 [.int .i64 u20330.Kind, .string u20330.Text] 28] [RowsF R_RuleD clz9587_4 u9586.1, RowsF Rep.str cl21610 a21608, RowsF Rep.str cl21614 b21612, SlF (Rep.int .i64) v21618 g21617, SlF R_AskD v20319 e20318.Asks, LvF] a w) hl2 ⟨a20375, b20379, 0, g16742, g16744, v20376, cl20377, v20380, cl20381, v16743, rfl, (hS.meet [0, 1, 2, 3, 4, 5] (by decide) ⟨rfl, rfl, rfl, rfl, rfl, rfl, rfl, rfl, rfl, rfl, rfl, rfl, rfl, rfl, rfl, trivial⟩ ⟨rfl, rfl, rfl, rfl, rfl, rfl, trivial⟩ ⟨⟨0, rfl⟩, ⟨1, rfl⟩, ⟨2, rfl⟩, ⟨3, rfl⟩, ⟨4, rfl⟩, ⟨5, rfl⟩, trivial⟩)⟩ ?_
              rintro s a w f2 ⟨a21608, b21612, g21616, g21617, g21619, v21609, cl21610, v21613, cl21614, v21618, rfl, hS⟩ hM hf2
              have hM : law24_ToyRings_l11 more_ e20318 a21608 b21612 g21616 g21617 g21619 = some f2 := hM
              unfold law24_ToyRings_l11 at hM
              refine wp_seq_k fun K960 hK960 => ?_
              refine r_list ?_
              refine wl rfl (ky (v := .bool (decide ((g21616 : Int) < (e20318.Asks.length : Int)))) hS (y_int hS rfl rfl rfl) rfl rfl fun a hS => ?_)
              refine wpList_nil ?_
              try simp only [Exit.then, Exit.inBlock, ↓reduceIte, Nat.reduceEqDiff]
              refine hK960 _ _ ?_
              refine wp_seq_k fun K961 hK961 => ?_
              rcases bool2 (decide ((g21616 : Int) < (e20318.Asks.length : Int))) with hb21659 | hb21659
              · replace hM := ct hb21659 hM
                refine c_t hS rfl hb21659 ?_
                refine wp_skip ?_
                try simp only [Exit.then, Exit.inBlock, ↓reduceIte, Nat.reduceEqDiff]
                refine hK961 _ _ ?_
                refine wp_seq_k fun K962 hK962 => ?_
                refine wp_block ?_
                refine wp_seq_k fun K963 hK963 => ?_
                refine r_list ?_
                refine wl rfl (ky (v := .int .i64 g21616) hS (y_move hS rfl) rfl rfl fun a hS => ?_)
                refine wl rfl (ky (v := .int .i64 g21616) hS (y_assign hS rfl) rfl rfl fun a hS => ?_)
                refine wpList_nil ?_
                try simp only [Exit.then, Exit.inBlock, ↓reduceIte, Nat.reduceEqDiff]
                refine hK963 _ _ ?_
                refine wp_seq_k fun K964 hK964 => ?_
                refine r_list ?_
                refine wl rfl (ky (v := .pointer (some ⟨bz9584_2, 0, none⟩)) hS (y_move hS rfl) rfl rfl fun a hS => ?_)
                obtain ⟨u21660, hu21660, hM⟩ := bd hM
                refine wl rfl (k_callm hS ci41 rfl rfl 3 rfl (dice_Next_c _ _ (hS.drop 3).dlt (DiceD.mk g21617 g21619) 64 _ _ (hS.boxRow 3 rfl) (hS.notin 3 rfl) (SlR.lent (i := 3) rfl (hS.get 3 rfl)) _ hu21660) fun _ w hR hk => ?_)
                obtain ⟨vz21661_3, he, hrow, hRvz21661_3⟩ := hR
                replace he := he.symm
                subst he
                refine ⟨[vz21661_3, .int .i64 u21660.2.At], hrow, fun a hS => ?_⟩
                replace hS := hS.fact (SlF (Rep.int .i64) vz21661_3 u21660.2.L) (SlR.back (i := 3) rfl hRvz21661_3)
                refine wl rfl (ky (v := .int .i64 u21660.1) hS (y_assign hS rfl) rfl rfl fun a hS => ?_)
                refine wpList_nil ?_
                try simp only [Exit.then, Exit.inBlock, ↓reduceIte, Nat.reduceEqDiff]
                refine hK964 _ _ ?_
                refine r_list ?_
                refine wl rfl (ky (v := v21609) hS (y_move hS rfl) rfl rfl fun a hS => ?_)
                refine wl rfl (ky (v := .int .i64 g21616) hS (y_move hS rfl) rfl rfl fun a hS => ?_)
                refine wl rfl (ky (v := v21613) hS (y_move hS rfl) rfl rfl fun a hS => ?_)
                refine wl rfl (ky (v := .int .i64 g21616) hS (y_move hS rfl) rfl rfl fun a hS => ?_)
                refine wl rfl (ky (v := .int .i64 u21660.1) hS (y_move hS rfl) rfl rfl fun a hS => ?_)
                obtain ⟨u21662, hu21662, hM⟩ := bd hM
                refine wl rfl (k_call hS ci36 rfl rfl (itoaM_c _ _ hS.dlt (hS.get 6 rfl) u21660.1 _ hu21662) fun _ w hR a hk hA => ?_)
                have he := Eq.symm hR
                subst he
                have hS := hA [] (fun r hr => by cases hr) List.Pairwise.nil
                refine wl rfl (ky (v := .int .i64 u21660.1) hS (y_move hS rfl) rfl rfl fun a hS => ?_)
                refine wl rfl (ky (v := .int .i64 more_) hS (y_move hS rfl) rfl rfl fun a hS => ?_)
                obtain ⟨u21664, hu21664, hM⟩ := bd hM
                refine wl rfl (k_call hS ci18 rfl rfl (mill_Mod_c _ _ hS.dlt more_ 64 _ hu21664) fun _ w hR a hk hA => ?_)
                have he := Eq.symm hR
                subst he
                have hS := hA [] (fun r hr => by cases hr) List.Pairwise.nil
                refine wl rfl (ky (v := .int .i64 (ibit .or .i64 u21660.1 u21664)) hS (y_bits hS rfl rfl rfl) rfl rfl fun a hS => ?_)
                obtain ⟨u21666, hu21666, hM⟩ := bd hM
                refine wl rfl (k_call hS ci36 rfl rfl (itoaM_c _ _ hS.dlt (hS.get 6 rfl) (ibit .or .i64 u21660.1 u21664) _ hu21666) fun _ w hR a hk hA => ?_)
                have he := Eq.symm hR
                subst he
                have hS := hA [] (fun r hr => by cases hr) List.Pairwise.nil
                obtain ⟨e21668, he21668, hM⟩ := bd hM
                refine wl rfl (k_indexo (R := Rep.str) hS sl65 ty9 rfl rfl 1 rfl 2 rfl he21668 rfl fun b21669 o21670 p21675 cs21672 hr21671 hO21673 hC21674 a hS => ?_)
                obtain rfl := hr21671
                refine wl rfl (k_storeo (R := Rep.str) (k := 0) (cs := [.string e21668]) (us := [.string u21662]) (x' := u21662) hS rfl rfl rfl ty9 1 rfl 2 rfl hO21673 hC21674 he21668 rfl rfl rfl rfl fun cl21676 w hk hS => ?_)
                obtain ⟨e21677, he21677, hM⟩ := bd hM
                refine wl rfl (k_indexo (R := Rep.str) hS sl65 ty9 rfl rfl 2 rfl 4 rfl he21677 rfl fun b21678 o21679 p21684 cs21681 hr21680 hO21682 hC21683 a hS => ?_)
                obtain rfl := hr21680
                refine wl rfl (k_storeo (R := Rep.str) (k := 0) (cs := [.string e21677]) (us := [.string u21666]) (x' := u21666) hS rfl rfl rfl ty9 2 rfl 4 rfl hO21682 hC21683 he21677 rfl rfl rfl rfl fun cl21685 w hk hS => ?_)
                refine wpList_nil ?_
                try simp only [Exit.then, Exit.inBlock, ↓reduceIte, Nat.reduceEqDiff]
                refine hK962 _ _ ?_
                refine r_list ?_
                refine wl rfl (ky (v := .int .i64 (IntKind.i64.wrap (g21616 + 1))) hS (y_int hS rfl rfl rfl) rfl rfl fun a hS => ?_)
                refine wl rfl (ky (v := .int .i64 (IntKind.i64.wrap (g21616 + 1))) hS (y_move hS rfl) rfl rfl fun a hS => ?_)
                refine wpList_nil ?_
                try simp only [Exit.then, Exit.inBlock, ↓reduceIte, Nat.reduceEqDiff]
                exact ⟨((a21608.set (Int.toNat g21616) u21662), (b21612.set (Int.toNat g21616) u21666), IntKind.i64.wrap (g21616 + 1), u21660.2.L, u21660.2.At), (Option.some.inj hM).symm, (a21608.set (Int.toNat g21616) u21662), (b21612.set (Int.toNat g21616) u21666), (IntKind.i64.wrap (g21616 + 1)), u21660.2.L, u21660.2.At, v21609, cl21676, v21613, cl21685, vz21661_3, rfl, (hS.meet [0, 1, 2, 3, 4, 5] (by decide) ⟨rfl, rfl, rfl, rfl, rfl, rfl, rfl, rfl, rfl, rfl, rfl, rfl, rfl, rfl, rfl, trivial⟩ ⟨rfl, rfl, rfl, rfl, rfl, rfl, trivial⟩ ⟨⟨3, rfl⟩, ⟨1, rfl⟩, ⟨0, rfl⟩, ⟨2, rfl⟩, ⟨7, rfl⟩, ⟨8, rfl⟩, trivial⟩)⟩
              · replace hM := cf hb21659 hM
                refine c_f hS rfl hb21659 ?_
                refine wp_exit ?_
                try simp only [Exit.then, Exit.inBlock, ↓reduceIte, Nat.reduceEqDiff]
                injection hM with hM
                subst hM
                have hr := hf2 _ rfl
                subst hr
                have hM : law24_ToyRings_j10 at_2 u9586 g16741 e20318 u20330 a21608 b21612 g21617 g21619 = some f1 := hMo2
                exact ⟨a21608, b21612, g21617, g21619, v21609, cl21610, v21613, cl21614, v21618, (hS.meet [0, 1, 2, 3, 4, 5] (by decide) ⟨rfl, rfl, rfl, rfl, rfl, rfl, rfl, rfl, rfl, rfl, rfl, rfl, rfl, trivial⟩ ⟨rfl, rfl, rfl, rfl, rfl, rfl, trivial⟩ ⟨⟨0, rfl⟩, ⟨1, rfl⟩, ⟨2, rfl⟩, ⟨3, rfl⟩, ⟨4, rfl⟩, ⟨5, rfl⟩, trivial⟩), hM⟩
            · rintro a w ⟨a20473, b20477, g20481, g20483, v20474, cl20475, v20478, cl20479, v20482, hS, hM⟩
              unfold law24_ToyRings_j10 at hM
              refine seq_j (J := fun a w => St W0 No T 167 [(1, .int .i64 more_), (2, .int .i64 at_2), (7, .pointer (some ⟨bz9584_2, 0, none⟩)), (8, vz9587_3), (9, .int .i64 g16741), (10, .pointer (some ⟨b20327, 0, none⟩)), (11, .pointer (some ⟨b20332, 0, none⟩)), (13, v20474), (14, v20478), (32, vz9587_3), (33, .int .i64 (u9586.1.length : Int)), (34, .int .i64 g16741)] [.own vz9587_3 53 R_RuleD.size clz9587_4, .own v20474 9 Rep.str.size cl20475, .own v20478 9 Rep.str.size cl20479, .box bz9584_2 [v20482, .int .i64 g20483] 84, .box b20327 [.bool e20318.Ring, v20319, .int .i64 e20318.Final, .int .i64 e20318.C] 53, .box b20332 [.int .i64 u20330.Kind, .string u20330.Text] 28] [RowsF R_RuleD clz9587_4 u9586.1, RowsF Rep.str cl20475 a20473, RowsF Rep.str cl20479 b20477, SlF (Rep.int .i64) v20482 g20481, SlF R_AskD v20319 e20318.Asks, LvF] a w ∧ law24_ToyRings_j6 at_2 u9586 g16741 e20318 u20330 a20473 b20477 g20481 g20483 = some f1) ?_ ?_
              · skip
                refine wp_seq_k fun K933 hK933 => ?_
                refine r_list ?_
                refine wl rfl (ky (v := .int .i64 (e20318.Asks.length : Int)) hS (y_move hS rfl) rfl rfl fun a hS => ?_)
                refine wl rfl (ky (v := .int .i64 0) hS (y_move hS rfl) rfl rfl fun a hS => ?_)
                refine wpList_nil ?_
                try simp only [Exit.then, Exit.inBlock, ↓reduceIte, Nat.reduceEqDiff]
                refine hK933 _ _ ?_
                refine wp_block ?_
                obtain ⟨r2, hl2, hMo2⟩ := bd hM
                refine wp_lp (fun s : Int => law24_ToyRings_l9 u9586 e20318 u20330 a20473 b20477 s) (fun s a w => ∃ (g21219 : Int), g21219 = s ∧ St W0 No T 167 [(1, .int .i64 more_), (2, .int .i64 at_2), (7, .pointer (some ⟨bz9584_2, 0, none⟩)), (8, vz9587_3), (9, .int .i64 g16741), (10, .pointer (some ⟨b20327, 0, none⟩)), (11, .pointer (some ⟨b20332, 0, none⟩)), (13, v20474), (14, v20478), (32, vz9587_3), (33, .int .i64 (u9586.1.length : Int)), (34, .int .i64 g16741), (69, .int .i64 (e20318.Asks.length : Int)), (70, .int .i64 g21219)] [.own vz9587_3 53 R_RuleD.size clz9587_4, .own v20474 9 Rep.str.size cl20475, .own v20478 9 Rep.str.size cl20479, .box bz9584_2 [v20482, .int .i64 g20483] 84, .box b20327 [.bool e20318.Ring, v20319, .int .i64 e20318.Final, .int .i64 e20318.C] 53, .box b20332 [.int .i64 u20330.Kind, .string u20330.Text] 28] [RowsF R_RuleD clz9587_4 u9586.1, RowsF Rep.str cl20475 a20473, RowsF Rep.str cl20479 b20477, SlF (Rep.int .i64) v20482 g20481, SlF R_AskD v20319 e20318.Asks, LvF] a w) hl2 ⟨0, rfl, (hS.meet [0, 1, 2, 3, 4, 5] (by decide) ⟨rfl, rfl, rfl, rfl, rfl, rfl, rfl, rfl, rfl, rfl, rfl, rfl, rfl, rfl, trivial⟩ ⟨rfl, rfl, rfl, rfl, rfl, rfl, trivial⟩ ⟨⟨0, rfl⟩, ⟨1, rfl⟩, ⟨2, rfl⟩, ⟨3, rfl⟩, ⟨4, rfl⟩, ⟨5, rfl⟩, trivial⟩)⟩ ?_
                rintro s a w f2 ⟨g21219, rfl, hS⟩ hM hf2
                have hM : law24_ToyRings_l9 u9586 e20318 u20330 a20473 b20477 g21219 = some f2 := hM
                unfold law24_ToyRings_l9 at hM
                refine wp_seq_k fun K944 hK944 => ?_
                refine r_list ?_
                refine wl rfl (ky (v := .bool (decide ((g21219 : Int) < (e20318.Asks.length : Int)))) hS (y_int hS rfl rfl rfl) rfl rfl fun a hS => ?_)
                refine wpList_nil ?_
                try simp only [Exit.then, Exit.inBlock, ↓reduceIte, Nat.reduceEqDiff]
                refine hK944 _ _ ?_
                refine wp_seq_k fun K945 hK945 => ?_
                rcases bool2 (decide ((g21219 : Int) < (e20318.Asks.length : Int))) with hb21395 | hb21395
                · replace hM := ct hb21395 hM
                  refine c_t hS rfl hb21395 ?_
                  refine wp_skip ?_
                  try simp only [Exit.then, Exit.inBlock, ↓reduceIte, Nat.reduceEqDiff]
                  refine hK945 _ _ ?_
                  refine wp_seq_k fun K946 hK946 => ?_
                  refine wp_block ?_
                  refine wp_seq_k fun K947 hK947 => ?_
                  refine r_list ?_
                  refine wl rfl (ky (v := .int .i64 g21219) hS (y_move hS rfl) rfl rfl fun a hS => ?_)
                  refine wl rfl (ky (v := .int .i64 g21219) hS (y_assign hS rfl) rfl rfl fun a hS => ?_)
                  refine wpList_nil ?_
                  try simp only [Exit.then, Exit.inBlock, ↓reduceIte, Nat.reduceEqDiff]
                  refine hK947 _ _ ?_
                  refine seq_j (J := fun a w => ∃ (q21490 : Bool) (q21491 : ByteArray) (q21492 : Int) (q21493 : ByteArray) (p21494 : Bool) (p21495 : ByteArray) (p21496 : Int) (p21497 : ByteArray) (b21486 : Nat) (b21488 : Nat), St W0 No T 167 [(1, .int .i64 more_), (2, .int .i64 at_2), (7, .pointer (some ⟨bz9584_2, 0, none⟩)), (8, vz9587_3), (9, .int .i64 g16741), (10, .pointer (some ⟨b20327, 0, none⟩)), (11, .pointer (some ⟨b20332, 0, none⟩)), (13, v20474), (14, v20478), (18, .pointer (some ⟨b21486, 0, none⟩)), (19, .pointer (some ⟨b21488, 0, none⟩)), (32, vz9587_3), (33, .int .i64 (u9586.1.length : Int)), (34, .int .i64 g16741), (69, .int .i64 (e20318.Asks.length : Int)), (70, .int .i64 g21219)] [.own vz9587_3 53 R_RuleD.size clz9587_4, .own v20474 9 Rep.str.size cl20475, .own v20478 9 Rep.str.size cl20479, .box bz9584_2 [v20482, .int .i64 g20483] 84, .box b20327 [.bool e20318.Ring, v20319, .int .i64 e20318.Final, .int .i64 e20318.C] 53, .box b20332 [.int .i64 u20330.Kind, .string u20330.Text] 28, .box b21486 [.bool q21490, .string q21491, .int .i64 q21492, .string q21493] 70, .box b21488 [.bool p21494, .string p21495, .int .i64 p21496, .string p21497] 70] [RowsF R_RuleD clz9587_4 u9586.1, RowsF Rep.str cl20475 a20473, RowsF Rep.str cl20479 b20477, SlF (Rep.int .i64) v20482 g20481, SlF R_AskD v20319 e20318.Asks, LvF] a w ∧ law24_ToyRings_j8 e20318 g21219 q21490 q21491 q21492 q21493 p21494 p21495 p21496 p21497 = some f2) ?_ ?_
                  · skip
                    obtain ⟨N21544, hN21544⟩ : ∃ N, N = w.heap.size := ⟨_, rfl⟩
                    replace hS := hS.fact (SzF N21544) (Nat.le_of_eq hN21544)
                    refine draws [(14, .new N21544), (15, .new N21544)] hS mixed rfl (fun c a d v w h => by cases d <;> exact h) fun w hQ hS => ?_
                    refine dy 0 (v := vz9587_3) rfl (by kernel_rfl) (by kernel_rfl) (by kernel_rfl) rfl hQ hS (y_move hS rfl) rfl rfl rfl fun a hS => ?_
                    refine dy (l := []) 1 (v := .agg #[.int .i64 u20330.Kind, .string u20330.Text]) rfl (by kernel_rfl) (by kernel_rfl) (by kernel_rfl) (by kernel_rfl) hQ hS (y_load hS rfl ty28 5 rfl eo_nil (us := [.int .i64 u20330.Kind, .string u20330.Text]) rfl rfl (fun h => by cases h)) rfl rfl rfl fun a hS => ?_
                    refine dy 2 (v := v20474) rfl (by kernel_rfl) (by kernel_rfl) (by kernel_rfl) rfl hQ hS (y_move hS rfl) rfl rfl rfl fun a hS => ?_
                    refine dy 3 (v := .int .i64 g21219) rfl (by kernel_rfl) (by kernel_rfl) (by kernel_rfl) rfl hQ hS (y_move hS rfl) rfl rfl rfl fun a hS => ?_
                    obtain ⟨l21545, hl21545, hM⟩ := bd hM
                    obtain ⟨v21546, hv21547, hy21548⟩ := d_view (R := Rep.str) hS sl65 ty9 1 rfl 2 rfl hl21545
                    refine dy 4 (v := v21546) rfl (by kernel_rfl) (by kernel_rfl) (by kernel_rfl) rfl hQ hS (hy21548 (k1 := .i64) rfl (.inr ⟨rfl, rfl⟩) (.inl ⟨_, rfl, rfl⟩)) rfl rfl rfl fun a hS => ?_
                    refine dy 6 (v := vz9587_3) rfl (by kernel_rfl) (by kernel_rfl) (by kernel_rfl) rfl hQ hS (y_move hS rfl) rfl rfl rfl fun a hS => ?_
                    obtain ⟨N21550, hN21551⟩ : ∃ N, N = w.heap.size := ⟨_, rfl⟩
                    refine wpE_upd 14 (.new N21550) _ (by kernel_rfl) (etNN (szLe hN21551 (hS.get 0 rfl))) ?_
                    replace hS := hS.fact (SzF N21550) (Nat.le_of_eq hN21551)
                    refine dy (l := [.new N21550]) 7 (v := .agg #[.int .i64 u20330.Kind, .string u20330.Text]) rfl (by kernel_rfl) (by kernel_rfl) (by kernel_rfl) (by kernel_rfl) hQ hS (y_load hS rfl ty28 5 rfl (eo_new hS hN21551 5 rfl rfl eo_nil) (us := [.int .i64 u20330.Kind, .string u20330.Text]) rfl rfl (fun h => by cases h)) rfl rfl rfl fun a hS => ?_
                    refine dy 8 (v := v20478) rfl (by kernel_rfl) (by kernel_rfl) (by kernel_rfl) rfl hQ hS (y_move hS rfl) rfl rfl rfl fun a hS => ?_
                    refine dy 9 (v := .int .i64 g21219) rfl (by kernel_rfl) (by kernel_rfl) (by kernel_rfl) rfl hQ hS (y_move hS rfl) rfl rfl rfl fun a hS => ?_
                    obtain ⟨l21552, hl21552, hM⟩ := bd hM
                    obtain ⟨v21553, hv21554, hy21555⟩ := d_view (R := Rep.str) hS sl65 ty9 2 rfl 4 rfl hl21552
                    refine dy 10 (v := v21553) rfl (by kernel_rfl) (by kernel_rfl) (by kernel_rfl) rfl hQ hS (hy21555 (k1 := .i64) rfl (.inr ⟨rfl, rfl⟩) (.inl ⟨_, rfl, rfl⟩)) rfl rfl rfl fun a hS => ?_
                    have hL := hS
                    replace hL := hL.freeze (R := R_RuleD) 0 rfl 2 rfl
                    replace hL := hL.freeze (R := Rep.str) 0 rfl 4 rfl
                    replace hL := hL.fact (SlF Rep.str v21546 l21545) (hv21547 _ _ (hL.get 0 rfl))
                    obtain ⟨u21557, hu21557, hM⟩ := bd hM
                    refine wpE_three (i := 5) (j := 12) (k := 13) rfl rfl rfl (by kernel_rfl) rfl rfl rfl ?_ ?_ ?_
                    · skip
                      have hL := hS
                      replace hL := hL.freeze (R := R_RuleD) 0 rfl 2 rfl
                      replace hL := hL.freeze (R := Rep.str) 0 rfl 4 rfl
                      replace hL := hL.fact (SlF Rep.str v21546 l21545) (hv21547 _ _ (hL.get 0 rfl))
                      refine id (k_call hS ci37 rfl rfl (toy_Turn_c _ _ hL.dlt (hL.get 10 rfl) u9586.1 u20330 l21545 _ _ (hL.get 2 rfl) (hL.get 0 rfl) _ hu21557) fun _ w hR a hk hA => ⟨stN (hk), ?_⟩)
                      have he := Eq.symm hR
                      subst he
                      have hS := hA [] (fun r hr => by cases hr) List.Pairwise.nil
                      have hL := hS
                      replace hL := hL.freeze (R := R_RuleD) 0 rfl 2 rfl
                      replace hL := hL.freeze (R := Rep.str) 1 rfl 5 rfl
                      replace hL := hL.fact (SlF Rep.str v21553 l21552) (hv21554 _ _ (hL.get 0 rfl))
                      obtain ⟨u21559, hu21559, hM⟩ := bd hM
                      refine wpE_three (i := 11) (j := 12) (k := 13) rfl rfl rfl (by kernel_rfl) rfl rfl rfl ?_ ?_ ?_
                      · skip
                        have hL := hS
                        replace hL := hL.freeze (R := R_RuleD) 0 rfl 2 rfl
                        replace hL := hL.freeze (R := Rep.str) 1 rfl 5 rfl
                        replace hL := hL.fact (SlF Rep.str v21553 l21552) (hv21554 _ _ (hL.get 0 rfl))
                        refine id (k_call hS ci37 rfl rfl (toy_Turn_c _ _ hL.dlt (hL.get 10 rfl) u9586.1 u20330 l21552 _ _ (hL.get 2 rfl) (hL.get 0 rfl) _ hu21559) fun _ w hR a hk hA => ⟨stN (hk), ?_⟩)
                        have he := Eq.symm hR
                        subst he
                        have hS := hA [] (fun r hr => by cases hr) List.Pairwise.nil
                        refine wpE_two (i := 12) (j := 13) rfl rfl (by kernel_rfl) rfl rfl ?_ ?_
                        · skip
                          have hz21564 := (hS.get 0 rfl : N21550 ≤ w.heap.size)
                          refine id (k_alloc hS ze70 rfl fun b21561 hnb21563 a w hk hS => ⟨stN (hk), ?_⟩)
                          refine wpE_upd 14 (.blk (some b21561)) _ (by kernel_rfl) (etNB (Nat.le_trans hz21564 hnb21563)) ?_
                          have hz21568 := (hS.get 1 rfl : N21544 ≤ w.heap.size)
                          refine wpE_one (i := 13) rfl (by kernel_rfl) rfl (k_alloc hS ze70 rfl fun b21565 hnb21567 a w hk hS => ⟨stN (hk), ?_⟩)
                          refine wpE_upd 15 (.blk (some b21565)) _ (by kernel_rfl) (etNB (Nat.le_trans hz21568 hnb21567)) ?_
                          refine wpE_one (i := 14) rfl (by kernel_rfl) rfl (k_store hS rfl rfl (us := [.bool u21557.Done, .string u21557.Value, .int .i64 u21557.Ask.Kind, .string u21557.Ask.Text]) rfl ty70 1 rfl rfl rfl (oc rfl (oc rfl (oc rfl (oc rfl on)))) fun w hk hS => ⟨stM rfl hk etBox, ?_⟩)
                          refine wpE_one (i := 15) rfl (by kernel_rfl) rfl (k_store hS rfl rfl (us := [.bool u21559.Done, .string u21559.Value, .int .i64 u21559.Ask.Kind, .string u21559.Ask.Text]) rfl ty70 0 rfl rfl rfl (oc rfl (oc rfl (oc rfl (oc rfl on)))) fun w hk hS => ⟨stM rfl hk etBox, ?_⟩)
                          refine wpE_done (by kernel_rfl) ?_ _
                          try simp only [Exit.then, Exit.inBlock, ↓reduceIte, Nat.reduceEqDiff]
                          exact ⟨u21557.Done, u21557.Value, u21557.Ask.Kind, u21557.Ask.Text, u21559.Done, u21559.Value, u21559.Ask.Kind, u21559.Ask.Text, b21561, b21565, (hS.meet [2, 3, 4, 5, 6, 7, 1, 0] (by decide) ⟨rfl, rfl, rfl, rfl, rfl, rfl, rfl, rfl, rfl, rfl, rfl, rfl, rfl, rfl, rfl, rfl, trivial⟩ ⟨rfl, rfl, rfl, rfl, rfl, rfl, rfl, rfl, trivial⟩ ⟨⟨2, rfl⟩, ⟨3, rfl⟩, ⟨4, rfl⟩, ⟨5, rfl⟩, ⟨6, rfl⟩, ⟨7, rfl⟩, trivial⟩), hM⟩
                        · skip
                          have hz21564 := (hS.get 1 rfl : N21544 ≤ w.heap.size)
                          refine id (k_alloc hS ze70 rfl fun b21561 hnb21563 a w hk hS => ⟨stN (hk), ?_⟩)
                          refine wpE_upd 15 (.blk (some b21561)) _ (by kernel_rfl) (etNB (Nat.le_trans hz21564 hnb21563)) ?_
                          have hz21568 := (hS.get 0 rfl : N21550 ≤ w.heap.size)
                          refine wpE_one (i := 12) rfl (by kernel_rfl) rfl (k_alloc hS ze70 rfl fun b21565 hnb21567 a w hk hS => ⟨stN (hk), ?_⟩)
                          refine wpE_upd 14 (.blk (some b21565)) _ (by kernel_rfl) (etNB (Nat.le_trans hz21568 hnb21567)) ?_
                          refine wpE_one (i := 14) rfl (by kernel_rfl) rfl (k_store hS rfl rfl (us := [.bool u21557.Done, .string u21557.Value, .int .i64 u21557.Ask.Kind, .string u21557.Ask.Text]) rfl ty70 0 rfl rfl rfl (oc rfl (oc rfl (oc rfl (oc rfl on)))) fun w hk hS => ⟨stM rfl hk etBox, ?_⟩)
                          refine wpE_one (i := 15) rfl (by kernel_rfl) rfl (k_store hS rfl rfl (us := [.bool u21559.Done, .string u21559.Value, .int .i64 u21559.Ask.Kind, .string u21559.Ask.Text]) rfl ty70 1 rfl rfl rfl (oc rfl (oc rfl (oc rfl (oc rfl on)))) fun w hk hS => ⟨stM rfl hk etBox, ?_⟩)
                          refine wpE_done (by kernel_rfl) ?_ _
                          try simp only [Exit.then, Exit.inBlock, ↓reduceIte, Nat.reduceEqDiff]
                          exact ⟨u21557.Done, u21557.Value, u21557.Ask.Kind, u21557.Ask.Text, u21559.Done, u21559.Value, u21559.Ask.Kind, u21559.Ask.Text, b21565, b21561, (hS.meet [2, 3, 4, 5, 6, 7, 0, 1] (by decide) ⟨rfl, rfl, rfl, rfl, rfl, rfl, rfl, rfl, rfl, rfl, rfl, rfl, rfl, rfl, rfl, rfl, trivial⟩ ⟨rfl, rfl, rfl, rfl, rfl, rfl, rfl, rfl, trivial⟩ ⟨⟨2, rfl⟩, ⟨3, rfl⟩, ⟨4, rfl⟩, ⟨5, rfl⟩, ⟨6, rfl⟩, ⟨7, rfl⟩, trivial⟩), hM⟩
                      · skip
                        have hz21563 := (hS.get 0 rfl : N21550 ≤ w.heap.size)
                        refine id (k_alloc hS ze70 rfl fun b21560 hnb21562 a w hk hS => ⟨stN (hk), ?_⟩)
                        refine wpE_upd 14 (.blk (some b21560)) _ (by kernel_rfl) (etNB (Nat.le_trans hz21563 hnb21562)) ?_
                        have hL := hS
                        replace hL := hL.freeze (R := R_RuleD) 1 rfl 2 rfl
                        replace hL := hL.freeze (R := Rep.str) 2 rfl 5 rfl
                        replace hL := hL.fact (SlF Rep.str v21553 l21552) (hv21554 _ _ (hL.get 0 rfl))
                        refine wpE_two (i := 11) (j := 13) rfl rfl (by kernel_rfl) rfl rfl ?_ ?_
                        · skip
                          have hL := hS
                          replace hL := hL.freeze (R := R_RuleD) 1 rfl 2 rfl
                          replace hL := hL.freeze (R := Rep.str) 2 rfl 5 rfl
                          replace hL := hL.fact (SlF Rep.str v21553 l21552) (hv21554 _ _ (hL.get 0 rfl))
                          refine id (k_call hS ci37 rfl rfl (toy_Turn_c _ _ hL.dlt (hL.get 10 rfl) u9586.1 u20330 l21552 _ _ (hL.get 2 rfl) (hL.get 0 rfl) _ hu21559) fun _ w hR a hk hA => ⟨stN (hk), ?_⟩)
                          have he := Eq.symm hR
                          subst he
                          have hS := hA [] (fun r hr => by cases hr) List.Pairwise.nil
                          have hz21568 := (hS.get 1 rfl : N21544 ≤ w.heap.size)
                          refine wpE_one (i := 13) rfl (by kernel_rfl) rfl (k_alloc hS ze70 rfl fun b21565 hnb21567 a w hk hS => ⟨stN (hk), ?_⟩)
                          refine wpE_upd 15 (.blk (some b21565)) _ (by kernel_rfl) (etNB (Nat.le_trans hz21568 hnb21567)) ?_
                          refine wpE_one (i := 14) rfl (by kernel_rfl) rfl (k_store hS rfl rfl (us := [.bool u21557.Done, .string u21557.Value, .int .i64 u21557.Ask.Kind, .string u21557.Ask.Text]) rfl ty70 1 rfl rfl rfl (oc rfl (oc rfl (oc rfl (oc rfl on)))) fun w hk hS => ⟨stM rfl hk etBox, ?_⟩)
                          refine wpE_one (i := 15) rfl (by kernel_rfl) rfl (k_store hS rfl rfl (us := [.bool u21559.Done, .string u21559.Value, .int .i64 u21559.Ask.Kind, .string u21559.Ask.Text]) rfl ty70 0 rfl rfl rfl (oc rfl (oc rfl (oc rfl (oc rfl on)))) fun w hk hS => ⟨stM rfl hk etBox, ?_⟩)
                          refine wpE_done (by kernel_rfl) ?_ _
                          try simp only [Exit.then, Exit.inBlock, ↓reduceIte, Nat.reduceEqDiff]
                          exact ⟨u21557.Done, u21557.Value, u21557.Ask.Kind, u21557.Ask.Text, u21559.Done, u21559.Value, u21559.Ask.Kind, u21559.Ask.Text, b21560, b21565, (hS.meet [2, 3, 4, 5, 6, 7, 1, 0] (by decide) ⟨rfl, rfl, rfl, rfl, rfl, rfl, rfl, rfl, rfl, rfl, rfl, rfl, rfl, rfl, rfl, rfl, trivial⟩ ⟨rfl, rfl, rfl, rfl, rfl, rfl, rfl, rfl, trivial⟩ ⟨⟨2, rfl⟩, ⟨3, rfl⟩, ⟨4, rfl⟩, ⟨5, rfl⟩, ⟨6, rfl⟩, ⟨7, rfl⟩, trivial⟩), hM⟩
                        · skip
                          have hz21567 := (hS.get 1 rfl : N21544 ≤ w.heap.size)
                          refine id (k_alloc hS ze70 rfl fun b21564 hnb21566 a w hk hS => ⟨stN (hk), ?_⟩)
                          refine wpE_upd 15 (.blk (some b21564)) _ (by kernel_rfl) (etNB (Nat.le_trans hz21567 hnb21566)) ?_
                          have hL := hS
                          replace hL := hL.freeze (R := R_RuleD) 2 rfl 2 rfl
                          replace hL := hL.freeze (R := Rep.str) 3 rfl 5 rfl
                          replace hL := hL.fact (SlF Rep.str v21553 l21552) (hv21554 _ _ (hL.get 0 rfl))
                          refine wpE_one (i := 11) rfl (by kernel_rfl) rfl (k_call hS ci37 rfl rfl (toy_Turn_c _ _ hL.dlt (hL.get 10 rfl) u9586.1 u20330 l21552 _ _ (hL.get 2 rfl) (hL.get 0 rfl) _ hu21559) fun _ w hR a hk hA => ⟨stN (hk), ?_⟩)
                          have he := Eq.symm hR
                          subst he
                          have hS := hA [] (fun r hr => by cases hr) List.Pairwise.nil
                          refine wpE_one (i := 14) rfl (by kernel_rfl) rfl (k_store hS rfl rfl (us := [.bool u21557.Done, .string u21557.Value, .int .i64 u21557.Ask.Kind, .string u21557.Ask.Text]) rfl ty70 1 rfl rfl rfl (oc rfl (oc rfl (oc rfl (oc rfl on)))) fun w hk hS => ⟨stM rfl hk etBox, ?_⟩)
                          refine wpE_one (i := 15) rfl (by kernel_rfl) rfl (k_store hS rfl rfl (us := [.bool u21559.Done, .string u21559.Value, .int .i64 u21559.Ask.Kind, .string u21559.Ask.Text]) rfl ty70 0 rfl rfl rfl (oc rfl (oc rfl (oc rfl (oc rfl on)))) fun w hk hS => ⟨stM rfl hk etBox, ?_⟩)
                          refine wpE_done (by kernel_rfl) ?_ _
                          try simp only [Exit.then, Exit.inBlock, ↓reduceIte, Nat.reduceEqDiff]
                          exact ⟨u21557.Done, u21557.Value, u21557.Ask.Kind, u21557.Ask.Text, u21559.Done, u21559.Value, u21559.Ask.Kind, u21559.Ask.Text, b21560, b21564, (hS.meet [2, 3, 4, 5, 6, 7, 1, 0] (by decide) ⟨rfl, rfl, rfl, rfl, rfl, rfl, rfl, rfl, rfl, rfl, rfl, rfl, rfl, rfl, rfl, rfl, trivial⟩ ⟨rfl, rfl, rfl, rfl, rfl, rfl, rfl, rfl, trivial⟩ ⟨⟨2, rfl⟩, ⟨3, rfl⟩, ⟨4, rfl⟩, ⟨5, rfl⟩, ⟨6, rfl⟩, ⟨7, rfl⟩, trivial⟩), hM⟩
                      · skip
                        have hz21563 := (hS.get 1 rfl : N21544 ≤ w.heap.size)
                        refine id (k_alloc hS ze70 rfl fun b21560 hnb21562 a w hk hS => ⟨stN (hk), ?_⟩)
                        refine wpE_upd 15 (.blk (some b21560)) _ (by kernel_rfl) (etNB (Nat.le_trans hz21563 hnb21562)) ?_
                        have hL := hS
                        replace hL := hL.freeze (R := R_RuleD) 1 rfl 2 rfl
                        replace hL := hL.freeze (R := Rep.str) 2 rfl 5 rfl
                        replace hL := hL.fact (SlF Rep.str v21553 l21552) (hv21554 _ _ (hL.get 0 rfl))
                        refine wpE_two (i := 11) (j := 12) rfl rfl (by kernel_rfl) rfl rfl ?_ ?_
                        · skip
                          have hL := hS
                          replace hL := hL.freeze (R := R_RuleD) 1 rfl 2 rfl
                          replace hL := hL.freeze (R := Rep.str) 2 rfl 5 rfl
                          replace hL := hL.fact (SlF Rep.str v21553 l21552) (hv21554 _ _ (hL.get 0 rfl))
                          refine id (k_call hS ci37 rfl rfl (toy_Turn_c _ _ hL.dlt (hL.get 10 rfl) u9586.1 u20330 l21552 _ _ (hL.get 2 rfl) (hL.get 0 rfl) _ hu21559) fun _ w hR a hk hA => ⟨stN (hk), ?_⟩)
                          have he := Eq.symm hR
                          subst he
                          have hS := hA [] (fun r hr => by cases hr) List.Pairwise.nil
                          have hz21568 := (hS.get 0 rfl : N21550 ≤ w.heap.size)
                          refine wpE_one (i := 12) rfl (by kernel_rfl) rfl (k_alloc hS ze70 rfl fun b21565 hnb21567 a w hk hS => ⟨stN (hk), ?_⟩)
                          refine wpE_upd 14 (.blk (some b21565)) _ (by kernel_rfl) (etNB (Nat.le_trans hz21568 hnb21567)) ?_
                          refine wpE_one (i := 14) rfl (by kernel_rfl) rfl (k_store hS rfl rfl (us := [.bool u21557.Done, .string u21557.Value, .int .i64 u21557.Ask.Kind, .string u21557.Ask.Text]) rfl ty70 0 rfl rfl rfl (oc rfl (oc rfl (oc rfl (oc rfl on)))) fun w hk hS => ⟨stM rfl hk etBox, ?_⟩)
                          refine wpE_one (i := 15) rfl (by kernel_rfl) rfl (k_store hS rfl rfl (us := [.bool u21559.Done, .string u21559.Value, .int .i64 u21559.Ask.Kind, .string u21559.Ask.Text]) rfl ty70 1 rfl rfl rfl (oc rfl (oc rfl (oc rfl (oc rfl on)))) fun w hk hS => ⟨stM rfl hk etBox, ?_⟩)
                          refine wpE_done (by kernel_rfl) ?_ _
                          try simp only [Exit.then, Exit.inBlock, ↓reduceIte, Nat.reduceEqDiff]
                          exact ⟨u21557.Done, u21557.Value, u21557.Ask.Kind, u21557.Ask.Text, u21559.Done, u21559.Value, u21559.Ask.Kind, u21559.Ask.Text, b21565, b21560, (hS.meet [2, 3, 4, 5, 6, 7, 0, 1] (by decide) ⟨rfl, rfl, rfl, rfl, rfl, rfl, rfl, rfl, rfl, rfl, rfl, rfl, rfl, rfl, rfl, rfl, trivial⟩ ⟨rfl, rfl, rfl, rfl, rfl, rfl, rfl, rfl, trivial⟩ ⟨⟨2, rfl⟩, ⟨3, rfl⟩, ⟨4, rfl⟩, ⟨5, rfl⟩, ⟨6, rfl⟩, ⟨7, rfl⟩, trivial⟩), hM⟩
                        · skip
                          have hz21567 := (hS.get 0 rfl : N21550 ≤ w.heap.size)
                          refine id (k_alloc hS ze70 rfl fun b21564 hnb21566 a w hk hS => ⟨stN (hk), ?_⟩)
                          refine wpE_upd 14 (.blk (some b21564)) _ (by kernel_rfl) (etNB (Nat.le_trans hz21567 hnb21566)) ?_
                          have hL := hS
                          replace hL := hL.freeze (R := R_RuleD) 2 rfl 2 rfl
                          replace hL := hL.freeze (R := Rep.str) 3 rfl 5 rfl
                          replace hL := hL.fact (SlF Rep.str v21553 l21552) (hv21554 _ _ (hL.get 0 rfl))
                          refine wpE_one (i := 11) rfl (by kernel_rfl) rfl (k_call hS ci37 rfl rfl (toy_Turn_c _ _ hL.dlt (hL.get 10 rfl) u9586.1 u20330 l21552 _ _ (hL.get 2 rfl) (hL.get 0 rfl) _ hu21559) fun _ w hR a hk hA => ⟨stN (hk), ?_⟩)
                          have he := Eq.symm hR
                          subst he
                          have hS := hA [] (fun r hr => by cases hr) List.Pairwise.nil
                          refine wpE_one (i := 14) rfl (by kernel_rfl) rfl (k_store hS rfl rfl (us := [.bool u21557.Done, .string u21557.Value, .int .i64 u21557.Ask.Kind, .string u21557.Ask.Text]) rfl ty70 0 rfl rfl rfl (oc rfl (oc rfl (oc rfl (oc rfl on)))) fun w hk hS => ⟨stM rfl hk etBox, ?_⟩)
                          refine wpE_one (i := 15) rfl (by kernel_rfl) rfl (k_store hS rfl rfl (us := [.bool u21559.Done, .string u21559.Value, .int .i64 u21559.Ask.Kind, .string u21559.Ask.Text]) rfl ty70 1 rfl rfl rfl (oc rfl (oc rfl (oc rfl (oc rfl on)))) fun w hk hS => ⟨stM rfl hk etBox, ?_⟩)
                          refine wpE_done (by kernel_rfl) ?_ _
                          try simp only [Exit.then, Exit.inBlock, ↓reduceIte, Nat.reduceEqDiff]
                          exact ⟨u21557.Done, u21557.Value, u21557.Ask.Kind, u21557.Ask.Text, u21559.Done, u21559.Value, u21559.Ask.Kind, u21559.Ask.Text, b21564, b21560, (hS.meet [2, 3, 4, 5, 6, 7, 0, 1] (by decide) ⟨rfl, rfl, rfl, rfl, rfl, rfl, rfl, rfl, rfl, rfl, rfl, rfl, rfl, rfl, rfl, rfl, trivial⟩ ⟨rfl, rfl, rfl, rfl, rfl, rfl, rfl, rfl, trivial⟩ ⟨⟨2, rfl⟩, ⟨3, rfl⟩, ⟨4, rfl⟩, ⟨5, rfl⟩, ⟨6, rfl⟩, ⟨7, rfl⟩, trivial⟩), hM⟩
                    · skip
                      have hz21561 := (hS.get 0 rfl : N21550 ≤ w.heap.size)
                      refine id (k_alloc hS ze70 rfl fun b21558 hnb21560 a w hk hS => ⟨stN (hk), ?_⟩)
                      refine wpE_upd 14 (.blk (some b21558)) _ (by kernel_rfl) (etNB (Nat.le_trans hz21561 hnb21560)) ?_
                      have hL := hS
                      replace hL := hL.freeze (R := R_RuleD) 1 rfl 2 rfl
                      replace hL := hL.freeze (R := Rep.str) 1 rfl 4 rfl
                      replace hL := hL.fact (SlF Rep.str v21546 l21545) (hv21547 _ _ (hL.get 0 rfl))
                      refine wpE_two (i := 5) (j := 13) rfl rfl (by kernel_rfl) rfl rfl ?_ ?_
                      · skip
                        have hL := hS
                        replace hL := hL.freeze (R := R_RuleD) 1 rfl 2 rfl
                        replace hL := hL.freeze (R := Rep.str) 1 rfl 4 rfl
                        replace hL := hL.fact (SlF Rep.str v21546 l21545) (hv21547 _ _ (hL.get 0 rfl))
                        refine id (k_call hS ci37 rfl rfl (toy_Turn_c _ _ hL.dlt (hL.get 10 rfl) u9586.1 u20330 l21545 _ _ (hL.get 2 rfl) (hL.get 0 rfl) _ hu21557) fun _ w hR a hk hA => ⟨stN (hk), ?_⟩)
                        have he := Eq.symm hR
                        subst he
                        have hS := hA [] (fun r hr => by cases hr) List.Pairwise.nil
                        have hL := hS
                        replace hL := hL.freeze (R := R_RuleD) 1 rfl 2 rfl
                        replace hL := hL.freeze (R := Rep.str) 2 rfl 5 rfl
                        replace hL := hL.fact (SlF Rep.str v21553 l21552) (hv21554 _ _ (hL.get 0 rfl))
                        obtain ⟨u21563, hu21563, hM⟩ := bd hM
                        refine wpE_two (i := 11) (j := 13) rfl rfl (by kernel_rfl) rfl rfl ?_ ?_
                        · skip
                          have hL := hS
                          replace hL := hL.freeze (R := R_RuleD) 1 rfl 2 rfl
                          replace hL := hL.freeze (R := Rep.str) 2 rfl 5 rfl
                          replace hL := hL.fact (SlF Rep.str v21553 l21552) (hv21554 _ _ (hL.get 0 rfl))
                          refine id (k_call hS ci37 rfl rfl (toy_Turn_c _ _ hL.dlt (hL.get 10 rfl) u9586.1 u20330 l21552 _ _ (hL.get 2 rfl) (hL.get 0 rfl) _ hu21563) fun _ w hR a hk hA => ⟨stN (hk), ?_⟩)
                          have he := Eq.symm hR
                          subst he
                          have hS := hA [] (fun r hr => by cases hr) List.Pairwise.nil
                          have hz21568 := (hS.get 1 rfl : N21544 ≤ w.heap.size)
                          refine wpE_one (i := 13) rfl (by kernel_rfl) rfl (k_alloc hS ze70 rfl fun b21565 hnb21567 a w hk hS => ⟨stN (hk), ?_⟩)
                          refine wpE_upd 15 (.blk (some b21565)) _ (by kernel_rfl) (etNB (Nat.le_trans hz21568 hnb21567)) ?_
                          refine wpE_one (i := 14) rfl (by kernel_rfl) rfl (k_store hS rfl rfl (us := [.bool u21557.Done, .string u21557.Value, .int .i64 u21557.Ask.Kind, .string u21557.Ask.Text]) rfl ty70 1 rfl rfl rfl (oc rfl (oc rfl (oc rfl (oc rfl on)))) fun w hk hS => ⟨stM rfl hk etBox, ?_⟩)
                          refine wpE_one (i := 15) rfl (by kernel_rfl) rfl (k_store hS rfl rfl (us := [.bool u21563.Done, .string u21563.Value, .int .i64 u21563.Ask.Kind, .string u21563.Ask.Text]) rfl ty70 0 rfl rfl rfl (oc rfl (oc rfl (oc rfl (oc rfl on)))) fun w hk hS => ⟨stM rfl hk etBox, ?_⟩)
                          refine wpE_done (by kernel_rfl) ?_ _
                          try simp only [Exit.then, Exit.inBlock, ↓reduceIte, Nat.reduceEqDiff]
                          exact ⟨u21557.Done, u21557.Value, u21557.Ask.Kind, u21557.Ask.Text, u21563.Done, u21563.Value, u21563.Ask.Kind, u21563.Ask.Text, b21558, b21565, (hS.meet [2, 3, 4, 5, 6, 7, 1, 0] (by decide) ⟨rfl, rfl, rfl, rfl, rfl, rfl, rfl, rfl, rfl, rfl, rfl, rfl, rfl, rfl, rfl, rfl, trivial⟩ ⟨rfl, rfl, rfl, rfl, rfl, rfl, rfl, rfl, trivial⟩ ⟨⟨2, rfl⟩, ⟨3, rfl⟩, ⟨4, rfl⟩, ⟨5, rfl⟩, ⟨6, rfl⟩, ⟨7, rfl⟩, trivial⟩), hM⟩
                        · skip
                          have hz21567 := (hS.get 1 rfl : N21544 ≤ w.heap.size)
                          refine id (k_alloc hS ze70 rfl fun b21564 hnb21566 a w hk hS => ⟨stN (hk), ?_⟩)
                          refine wpE_upd 15 (.blk (some b21564)) _ (by kernel_rfl) (etNB (Nat.le_trans hz21567 hnb21566)) ?_
                          have hL := hS
                          replace hL := hL.freeze (R := R_RuleD) 2 rfl 2 rfl
                          replace hL := hL.freeze (R := Rep.str) 3 rfl 5 rfl
                          replace hL := hL.fact (SlF Rep.str v21553 l21552) (hv21554 _ _ (hL.get 0 rfl))
                          refine wpE_one (i := 11) rfl (by kernel_rfl) rfl (k_call hS ci37 rfl rfl (toy_Turn_c _ _ hL.dlt (hL.get 10 rfl) u9586.1 u20330 l21552 _ _ (hL.get 2 rfl) (hL.get 0 rfl) _ hu21563) fun _ w hR a hk hA => ⟨stN (hk), ?_⟩)
                          have he := Eq.symm hR
                          subst he
                          have hS := hA [] (fun r hr => by cases hr) List.Pairwise.nil
                          refine wpE_one (i := 14) rfl (by kernel_rfl) rfl (k_store hS rfl rfl (us := [.bool u21557.Done, .string u21557.Value, .int .i64 u21557.Ask.Kind, .string u21557.Ask.Text]) rfl ty70 1 rfl rfl rfl (oc rfl (oc rfl (oc rfl (oc rfl on)))) fun w hk hS => ⟨stM rfl hk etBox, ?_⟩)
                          refine wpE_one (i := 15) rfl (by kernel_rfl) rfl (k_store hS rfl rfl (us := [.bool u21563.Done, .string u21563.Value, .int .i64 u21563.Ask.Kind, .string u21563.Ask.Text]) rfl ty70 0 rfl rfl rfl (oc rfl (oc rfl (oc rfl (oc rfl on)))) fun w hk hS => ⟨stM rfl hk etBox, ?_⟩)
                          refine wpE_done (by kernel_rfl) ?_ _
                          try simp only [Exit.then, Exit.inBlock, ↓reduceIte, Nat.reduceEqDiff]
                          exact ⟨u21557.Done, u21557.Value, u21557.Ask.Kind, u21557.Ask.Text, u21563.Done, u21563.Value, u21563.Ask.Kind, u21563.Ask.Text, b21558, b21564, (hS.meet [2, 3, 4, 5, 6, 7, 1, 0] (by decide) ⟨rfl, rfl, rfl, rfl, rfl, rfl, rfl, rfl, rfl, rfl, rfl, rfl, rfl, rfl, rfl, rfl, trivial⟩ ⟨rfl, rfl, rfl, rfl, rfl, rfl, rfl, rfl, trivial⟩ ⟨⟨2, rfl⟩, ⟨3, rfl⟩, ⟨4, rfl⟩, ⟨5, rfl⟩, ⟨6, rfl⟩, ⟨7, rfl⟩, trivial⟩), hM⟩
                      · skip
                        have hz21565 := (hS.get 1 rfl : N21544 ≤ w.heap.size)
                        refine id (k_alloc hS ze70 rfl fun b21562 hnb21564 a w hk hS => ⟨stN (hk), ?_⟩)
                        refine wpE_upd 15 (.blk (some b21562)) _ (by kernel_rfl) (etNB (Nat.le_trans hz21565 hnb21564)) ?_
                        have hL := hS
                        replace hL := hL.freeze (R := R_RuleD) 2 rfl 2 rfl
                        replace hL := hL.freeze (R := Rep.str) 2 rfl 4 rfl
                        replace hL := hL.fact (SlF Rep.str v21546 l21545) (hv21547 _ _ (hL.get 0 rfl))
                        refine wpE_one (i := 5) rfl (by kernel_rfl) rfl (k_call hS ci37 rfl rfl (toy_Turn_c _ _ hL.dlt (hL.get 10 rfl) u9586.1 u20330 l21545 _ _ (hL.get 2 rfl) (hL.get 0 rfl) _ hu21557) fun _ w hR a hk hA => ⟨stN (hk), ?_⟩)
                        have he := Eq.symm hR
                        subst he
                        have hS := hA [] (fun r hr => by cases hr) List.Pairwise.nil
                        have hL := hS
                        replace hL := hL.freeze (R := R_RuleD) 2 rfl 2 rfl
                        replace hL := hL.freeze (R := Rep.str) 3 rfl 5 rfl
                        replace hL := hL.fact (SlF Rep.str v21553 l21552) (hv21554 _ _ (hL.get 0 rfl))
                        obtain ⟨u21567, hu21567, hM⟩ := bd hM
                        refine wpE_one (i := 11) rfl (by kernel_rfl) rfl (k_call hS ci37 rfl rfl (toy_Turn_c _ _ hL.dlt (hL.get 10 rfl) u9586.1 u20330 l21552 _ _ (hL.get 2 rfl) (hL.get 0 rfl) _ hu21567) fun _ w hR a hk hA => ⟨stN (hk), ?_⟩)
                        have he := Eq.symm hR
                        subst he
                        have hS := hA [] (fun r hr => by cases hr) List.Pairwise.nil
                        refine wpE_one (i := 14) rfl (by kernel_rfl) rfl (k_store hS rfl rfl (us := [.bool u21557.Done, .string u21557.Value, .int .i64 u21557.Ask.Kind, .string u21557.Ask.Text]) rfl ty70 1 rfl rfl rfl (oc rfl (oc rfl (oc rfl (oc rfl on)))) fun w hk hS => ⟨stM rfl hk etBox, ?_⟩)
                        refine wpE_one (i := 15) rfl (by kernel_rfl) rfl (k_store hS rfl rfl (us := [.bool u21567.Done, .string u21567.Value, .int .i64 u21567.Ask.Kind, .string u21567.Ask.Text]) rfl ty70 0 rfl rfl rfl (oc rfl (oc rfl (oc rfl (oc rfl on)))) fun w hk hS => ⟨stM rfl hk etBox, ?_⟩)
                        refine wpE_done (by kernel_rfl) ?_ _
                        try simp only [Exit.then, Exit.inBlock, ↓reduceIte, Nat.reduceEqDiff]
                        exact ⟨u21557.Done, u21557.Value, u21557.Ask.Kind, u21557.Ask.Text, u21567.Done, u21567.Value, u21567.Ask.Kind, u21567.Ask.Text, b21558, b21562, (hS.meet [2, 3, 4, 5, 6, 7, 1, 0] (by decide) ⟨rfl, rfl, rfl, rfl, rfl, rfl, rfl, rfl, rfl, rfl, rfl, rfl, rfl, rfl, rfl, rfl, trivial⟩ ⟨rfl, rfl, rfl, rfl, rfl, rfl, rfl, rfl, trivial⟩ ⟨⟨2, rfl⟩, ⟨3, rfl⟩, ⟨4, rfl⟩, ⟨5, rfl⟩, ⟨6, rfl⟩, ⟨7, rfl⟩, trivial⟩), hM⟩
                    · skip
                      have hz21561 := (hS.get 1 rfl : N21544 ≤ w.heap.size)
                      refine id (k_alloc hS ze70 rfl fun b21558 hnb21560 a w hk hS => ⟨stN (hk), ?_⟩)
                      refine wpE_upd 15 (.blk (some b21558)) _ (by kernel_rfl) (etNB (Nat.le_trans hz21561 hnb21560)) ?_
                      have hL := hS
                      replace hL := hL.freeze (R := R_RuleD) 1 rfl 2 rfl
                      replace hL := hL.freeze (R := Rep.str) 1 rfl 4 rfl
                      replace hL := hL.fact (SlF Rep.str v21546 l21545) (hv21547 _ _ (hL.get 0 rfl))
                      refine wpE_two (i := 5) (j := 12) rfl rfl (by kernel_rfl) rfl rfl ?_ ?_
                      · skip
                        have hL := hS
                        replace hL := hL.freeze (R := R_RuleD) 1 rfl 2 rfl
                        replace hL := hL.freeze (R := Rep.str) 1 rfl 4 rfl
                        replace hL := hL.fact (SlF Rep.str v21546 l21545) (hv21547 _ _ (hL.get 0 rfl))
                        refine id (k_call hS ci37 rfl rfl (toy_Turn_c _ _ hL.dlt (hL.get 10 rfl) u9586.1 u20330 l21545 _ _ (hL.get 2 rfl) (hL.get 0 rfl) _ hu21557) fun _ w hR a hk hA => ⟨stN (hk), ?_⟩)
                        have he := Eq.symm hR
                        subst he
                        have hS := hA [] (fun r hr => by cases hr) List.Pairwise.nil
                        have hL := hS
                        replace hL := hL.freeze (R := R_RuleD) 1 rfl 2 rfl
                        replace hL := hL.freeze (R := Rep.str) 2 rfl 5 rfl
                        replace hL := hL.fact (SlF Rep.str v21553 l21552) (hv21554 _ _ (hL.get 0 rfl))
                        obtain ⟨u21563, hu21563, hM⟩ := bd hM
                        refine wpE_two (i := 11) (j := 12) rfl rfl (by kernel_rfl) rfl rfl ?_ ?_
                        · skip
                          have hL := hS
                          replace hL := hL.freeze (R := R_RuleD) 1 rfl 2 rfl
                          replace hL := hL.freeze (R := Rep.str) 2 rfl 5 rfl
                          replace hL := hL.fact (SlF Rep.str v21553 l21552) (hv21554 _ _ (hL.get 0 rfl))
                          refine id (k_call hS ci37 rfl rfl (toy_Turn_c _ _ hL.dlt (hL.get 10 rfl) u9586.1 u20330 l21552 _ _ (hL.get 2 rfl) (hL.get 0 rfl) _ hu21563) fun _ w hR a hk hA => ⟨stN (hk), ?_⟩)
                          have he := Eq.symm hR
                          subst he
                          have hS := hA [] (fun r hr => by cases hr) List.Pairwise.nil
                          have hz21568 := (hS.get 0 rfl : N21550 ≤ w.heap.size)
                          refine wpE_one (i := 12) rfl (by kernel_rfl) rfl (k_alloc hS ze70 rfl fun b21565 hnb21567 a w hk hS => ⟨stN (hk), ?_⟩)
                          refine wpE_upd 14 (.blk (some b21565)) _ (by kernel_rfl) (etNB (Nat.le_trans hz21568 hnb21567)) ?_
                          refine wpE_one (i := 14) rfl (by kernel_rfl) rfl (k_store hS rfl rfl (us := [.bool u21557.Done, .string u21557.Value, .int .i64 u21557.Ask.Kind, .string u21557.Ask.Text]) rfl ty70 0 rfl rfl rfl (oc rfl (oc rfl (oc rfl (oc rfl on)))) fun w hk hS => ⟨stM rfl hk etBox, ?_⟩)
                          refine wpE_one (i := 15) rfl (by kernel_rfl) rfl (k_store hS rfl rfl (us := [.bool u21563.Done, .string u21563.Value, .int .i64 u21563.Ask.Kind, .string u21563.Ask.Text]) rfl ty70 1 rfl rfl rfl (oc rfl (oc rfl (oc rfl (oc rfl on)))) fun w hk hS => ⟨stM rfl hk etBox, ?_⟩)
                          refine wpE_done (by kernel_rfl) ?_ _
                          try simp only [Exit.then, Exit.inBlock, ↓reduceIte, Nat.reduceEqDiff]
                          exact ⟨u21557.Done, u21557.Value, u21557.Ask.Kind, u21557.Ask.Text, u21563.Done, u21563.Value, u21563.Ask.Kind, u21563.Ask.Text, b21565, b21558, (hS.meet [2, 3, 4, 5, 6, 7, 0, 1] (by decide) ⟨rfl, rfl, rfl, rfl, rfl, rfl, rfl, rfl, rfl, rfl, rfl, rfl, rfl, rfl, rfl, rfl, trivial⟩ ⟨rfl, rfl, rfl, rfl, rfl, rfl, rfl, rfl, trivial⟩ ⟨⟨2, rfl⟩, ⟨3, rfl⟩, ⟨4, rfl⟩, ⟨5, rfl⟩, ⟨6, rfl⟩, ⟨7, rfl⟩, trivial⟩), hM⟩
                        · skip
                          have hz21567 := (hS.get 0 rfl : N21550 ≤ w.heap.size)
                          refine id (k_alloc hS ze70 rfl fun b21564 hnb21566 a w hk hS => ⟨stN (hk), ?_⟩)
                          refine wpE_upd 14 (.blk (some b21564)) _ (by kernel_rfl) (etNB (Nat.le_trans hz21567 hnb21566)) ?_
                          have hL := hS
                          replace hL := hL.freeze (R := R_RuleD) 2 rfl 2 rfl
                          replace hL := hL.freeze (R := Rep.str) 3 rfl 5 rfl
                          replace hL := hL.fact (SlF Rep.str v21553 l21552) (hv21554 _ _ (hL.get 0 rfl))
                          refine wpE_one (i := 11) rfl (by kernel_rfl) rfl (k_call hS ci37 rfl rfl (toy_Turn_c _ _ hL.dlt (hL.get 10 rfl) u9586.1 u20330 l21552 _ _ (hL.get 2 rfl) (hL.get 0 rfl) _ hu21563) fun _ w hR a hk hA => ⟨stN (hk), ?_⟩)
                          have he := Eq.symm hR
                          subst he
                          have hS := hA [] (fun r hr => by cases hr) List.Pairwise.nil
                          refine wpE_one (i := 14) rfl (by kernel_rfl) rfl (k_store hS rfl rfl (us := [.bool u21557.Done, .string u21557.Value, .int .i64 u21557.Ask.Kind, .string u21557.Ask.Text]) rfl ty70 0 rfl rfl rfl (oc rfl (oc rfl (oc rfl (oc rfl on)))) fun w hk hS => ⟨stM rfl hk etBox, ?_⟩)
                          refine wpE_one (i := 15) rfl (by kernel_rfl) rfl (k_store hS rfl rfl (us := [.bool u21563.Done, .string u21563.Value, .int .i64 u21563.Ask.Kind, .string u21563.Ask.Text]) rfl ty70 1 rfl rfl rfl (oc rfl (oc rfl (oc rfl (oc rfl on)))) fun w hk hS => ⟨stM rfl hk etBox, ?_⟩)
                          refine wpE_done (by kernel_rfl) ?_ _
                          try simp only [Exit.then, Exit.inBlock, ↓reduceIte, Nat.reduceEqDiff]
                          exact ⟨u21557.Done, u21557.Value, u21557.Ask.Kind, u21557.Ask.Text, u21563.Done, u21563.Value, u21563.Ask.Kind, u21563.Ask.Text, b21564, b21558, (hS.meet [2, 3, 4, 5, 6, 7, 0, 1] (by decide) ⟨rfl, rfl, rfl, rfl, rfl, rfl, rfl, rfl, rfl, rfl, rfl, rfl, rfl, rfl, rfl, rfl, trivial⟩ ⟨rfl, rfl, rfl, rfl, rfl, rfl, rfl, rfl, trivial⟩ ⟨⟨2, rfl⟩, ⟨3, rfl⟩, ⟨4, rfl⟩, ⟨5, rfl⟩, ⟨6, rfl⟩, ⟨7, rfl⟩, trivial⟩), hM⟩
                      · skip
                        have hz21565 := (hS.get 0 rfl : N21550 ≤ w.heap.size)
                        refine id (k_alloc hS ze70 rfl fun b21562 hnb21564 a w hk hS => ⟨stN (hk), ?_⟩)
                        refine wpE_upd 14 (.blk (some b21562)) _ (by kernel_rfl) (etNB (Nat.le_trans hz21565 hnb21564)) ?_
                        have hL := hS
                        replace hL := hL.freeze (R := R_RuleD) 2 rfl 2 rfl
                        replace hL := hL.freeze (R := Rep.str) 2 rfl 4 rfl
                        replace hL := hL.fact (SlF Rep.str v21546 l21545) (hv21547 _ _ (hL.get 0 rfl))
                        refine wpE_one (i := 5) rfl (by kernel_rfl) rfl (k_call hS ci37 rfl rfl (toy_Turn_c _ _ hL.dlt (hL.get 10 rfl) u9586.1 u20330 l21545 _ _ (hL.get 2 rfl) (hL.get 0 rfl) _ hu21557) fun _ w hR a hk hA => ⟨stN (hk), ?_⟩)
                        have he := Eq.symm hR
                        subst he
                        have hS := hA [] (fun r hr => by cases hr) List.Pairwise.nil
                        have hL := hS
                        replace hL := hL.freeze (R := R_RuleD) 2 rfl 2 rfl
                        replace hL := hL.freeze (R := Rep.str) 3 rfl 5 rfl
                        replace hL := hL.fact (SlF Rep.str v21553 l21552) (hv21554 _ _ (hL.get 0 rfl))
                        obtain ⟨u21567, hu21567, hM⟩ := bd hM
                        refine wpE_one (i := 11) rfl (by kernel_rfl) rfl (k_call hS ci37 rfl rfl (toy_Turn_c _ _ hL.dlt (hL.get 10 rfl) u9586.1 u20330 l21552 _ _ (hL.get 2 rfl) (hL.get 0 rfl) _ hu21567) fun _ w hR a hk hA => ⟨stN (hk), ?_⟩)
                        have he := Eq.symm hR
                        subst he
                        have hS := hA [] (fun r hr => by cases hr) List.Pairwise.nil
                        refine wpE_one (i := 14) rfl (by kernel_rfl) rfl (k_store hS rfl rfl (us := [.bool u21557.Done, .string u21557.Value, .int .i64 u21557.Ask.Kind, .string u21557.Ask.Text]) rfl ty70 0 rfl rfl rfl (oc rfl (oc rfl (oc rfl (oc rfl on)))) fun w hk hS => ⟨stM rfl hk etBox, ?_⟩)
                        refine wpE_one (i := 15) rfl (by kernel_rfl) rfl (k_store hS rfl rfl (us := [.bool u21567.Done, .string u21567.Value, .int .i64 u21567.Ask.Kind, .string u21567.Ask.Text]) rfl ty70 1 rfl rfl rfl (oc rfl (oc rfl (oc rfl (oc rfl on)))) fun w hk hS => ⟨stM rfl hk etBox, ?_⟩)
                        refine wpE_done (by kernel_rfl) ?_ _
                        try simp only [Exit.then, Exit.inBlock, ↓reduceIte, Nat.reduceEqDiff]
                        exact ⟨u21557.Done, u21557.Value, u21557.Ask.Kind, u21557.Ask.Text, u21567.Done, u21567.Value, u21567.Ask.Kind, u21567.Ask.Text, b21562, b21558, (hS.meet [2, 3, 4, 5, 6, 7, 0, 1] (by decide) ⟨rfl, rfl, rfl, rfl, rfl, rfl, rfl, rfl, rfl, rfl, rfl, rfl, rfl, rfl, rfl, rfl, trivial⟩ ⟨rfl, rfl, rfl, rfl, rfl, rfl, rfl, rfl, trivial⟩ ⟨⟨2, rfl⟩, ⟨3, rfl⟩, ⟨4, rfl⟩, ⟨5, rfl⟩, ⟨6, rfl⟩, ⟨7, rfl⟩, trivial⟩), hM⟩
                  · rintro a w ⟨q21490, q21491, q21492, q21493, p21494, p21495, p21496, p21497, b21486, b21488, hS, hM⟩
                    unfold law24_ToyRings_j8 at hM
                    refine seq_j (J := fun a w => ∃ (g21514 : Bool), St W0 No T 167 [(1, .int .i64 more_), (2, .int .i64 at_2), (7, .pointer (some ⟨bz9584_2, 0, none⟩)), (8, vz9587_3), (9, .int .i64 g16741), (10, .pointer (some ⟨b20327, 0, none⟩)), (11, .pointer (some ⟨b20332, 0, none⟩)), (13, v20474), (14, v20478), (32, vz9587_3), (33, .int .i64 (u9586.1.length : Int)), (34, .int .i64 g16741), (69, .int .i64 (e20318.Asks.length : Int)), (70, .int .i64 g21219), (107, .bool g21514)] [.own vz9587_3 53 R_RuleD.size clz9587_4, .own v20474 9 Rep.str.size cl20475, .own v20478 9 Rep.str.size cl20479, .box bz9584_2 [v20482, .int .i64 g20483] 84, .box b20327 [.bool e20318.Ring, v20319, .int .i64 e20318.Final, .int .i64 e20318.C] 53, .box b20332 [.int .i64 u20330.Kind, .string u20330.Text] 28] [RowsF R_RuleD clz9587_4 u9586.1, RowsF Rep.str cl20475 a20473, RowsF Rep.str cl20479 b20477, SlF (Rep.int .i64) v20482 g20481, SlF R_AskD v20319 e20318.Asks, LvF] a w ∧ law24_ToyRings_j7 g21219 g21514 = some f2) ?_ ?_
                    · skip
                      refine r_list ?_
                      refine wl rfl (ky (v := .pointer (some ⟨b21486, 0 + 0, none⟩)) hS (y_fld hS rfl fl70_0) rfl rfl fun a hS => ?_)
                      refine wl rfl (ky (v := .bool q21490) hS (y_load hS rfl ty4 6 rfl id (us := [.bool q21490]) rfl rfl (fun _ => rfl)) rfl rfl fun a hS => ?_)
                      refine wl rfl (ky (v := .bool q21490) hS (y_move hS rfl) rfl rfl fun a hS => ?_)
                      rcases bool2 (q21490) with hb21516 | hb21516
                      · replace hM := ct hb21516 hM
                        refine wn hS rfl rfl rfl hb21516 rfl rfl fun a hS => ?_
                        refine wn hS rfl rfl rfl hb21516 rfl rfl fun a hS => ?_
                        refine wl rfl (ky (v := .bool true) hS (y_pickt hS rfl hb21516 rfl) rfl rfl fun a hS => ?_)
                        refine wl rfl (ky (v := .bool true) hS (y_move hS rfl) rfl rfl fun a hS => ?_)
                        refine wn hS rfl rfl rfl rfl rfl rfl fun a hS => ?_
                        refine wn hS rfl rfl rfl rfl rfl rfl fun a hS => ?_
                        refine wn hS rfl rfl rfl rfl rfl rfl fun a hS => ?_
                        refine wnu hS rfl rfl rfl rfl rfl fun a hS => ?_
                        refine wnu hS rfl rfl rfl rfl rfl fun a hS => ?_
                        refine wnu hS rfl rfl rfl rfl rfl fun a hS => ?_
                        refine wnu hS rfl rfl rfl rfl rfl fun a hS => ?_
                        refine wnu hS rfl rfl rfl rfl rfl fun a hS => ?_
                        refine wn hS rfl rfl rfl rfl rfl rfl fun a hS => ?_
                        refine wl rfl (ky (v := .bool true) hS (y_pickt hS rfl rfl rfl) rfl rfl fun a hS => ?_)
                        refine wl rfl (ky (v := .bool true) hS (y_move hS rfl) rfl rfl fun a hS => ?_)
                        refine wn hS rfl rfl rfl rfl rfl rfl fun a hS => ?_
                        refine wn hS rfl rfl rfl rfl rfl rfl fun a hS => ?_
                        refine wn hS rfl rfl rfl rfl rfl rfl fun a hS => ?_
                        refine wn hS rfl rfl rfl rfl rfl rfl fun a hS => ?_
                        refine wl rfl (ky (v := .bool true) hS (y_pickt hS rfl rfl rfl) rfl rfl fun a hS => ?_)
                        refine wpList_nil ?_
                        try simp only [Exit.then, Exit.inBlock, ↓reduceIte, Nat.reduceEqDiff]
                        exact ⟨true, (hS.meet [0, 1, 2, 3, 4, 5] (by decide) ⟨rfl, rfl, rfl, rfl, rfl, rfl, rfl, rfl, rfl, rfl, rfl, rfl, rfl, rfl, rfl, trivial⟩ ⟨rfl, rfl, rfl, rfl, rfl, rfl, trivial⟩ ⟨⟨0, rfl⟩, ⟨1, rfl⟩, ⟨2, rfl⟩, ⟨3, rfl⟩, ⟨4, rfl⟩, ⟨5, rfl⟩, trivial⟩), hM⟩
                      · replace hM := cf hb21516 hM
                        refine wg hS rfl rfl rfl hb21516 (ky (v := .pointer (some ⟨b21488, 0 + 0, none⟩)) hS (y_fld hS rfl fl70_0) rfl rfl fun a hS => ?_)
                        refine wg hS rfl rfl rfl hb21516 (ky (v := .bool p21494) hS (y_load hS rfl ty4 7 rfl id (us := [.bool p21494]) rfl rfl (fun _ => rfl)) rfl rfl fun a hS => ?_)
                        refine wl rfl (ky (v := .bool p21494) hS (y_pickf hS rfl hb21516 rfl) rfl rfl fun a hS => ?_)
                        refine wl rfl (ky (v := .bool p21494) hS (y_move hS rfl) rfl rfl fun a hS => ?_)
                        rcases bool2 (p21494) with hb21517 | hb21517
                        · replace hM := ct hb21517 hM
                          refine wn hS rfl rfl rfl hb21517 rfl rfl fun a hS => ?_
                          refine wn hS rfl rfl rfl hb21517 rfl rfl fun a hS => ?_
                          refine wn hS rfl rfl rfl hb21517 rfl rfl fun a hS => ?_
                          refine wnu hS rfl rfl rfl rfl rfl fun a hS => ?_
                          refine wnu hS rfl rfl rfl rfl rfl fun a hS => ?_
                          refine wnu hS rfl rfl rfl rfl rfl fun a hS => ?_
                          refine wnu hS rfl rfl rfl rfl rfl fun a hS => ?_
                          refine wnu hS rfl rfl rfl rfl rfl fun a hS => ?_
                          refine wn hS rfl rfl rfl hb21517 rfl rfl fun a hS => ?_
                          refine wl rfl (ky (v := .bool true) hS (y_pickt hS rfl hb21517 rfl) rfl rfl fun a hS => ?_)
                          refine wl rfl (ky (v := .bool true) hS (y_move hS rfl) rfl rfl fun a hS => ?_)
                          refine wn hS rfl rfl rfl rfl rfl rfl fun a hS => ?_
                          refine wn hS rfl rfl rfl rfl rfl rfl fun a hS => ?_
                          refine wn hS rfl rfl rfl rfl rfl rfl fun a hS => ?_
                          refine wn hS rfl rfl rfl rfl rfl rfl fun a hS => ?_
                          refine wl rfl (ky (v := .bool true) hS (y_pickt hS rfl rfl rfl) rfl rfl fun a hS => ?_)
                          refine wpList_nil ?_
                          try simp only [Exit.then, Exit.inBlock, ↓reduceIte, Nat.reduceEqDiff]
                          exact ⟨true, (hS.meet [0, 1, 2, 3, 4, 5] (by decide) ⟨rfl, rfl, rfl, rfl, rfl, rfl, rfl, rfl, rfl, rfl, rfl, rfl, rfl, rfl, rfl, trivial⟩ ⟨rfl, rfl, rfl, rfl, rfl, rfl, trivial⟩ ⟨⟨0, rfl⟩, ⟨1, rfl⟩, ⟨2, rfl⟩, ⟨3, rfl⟩, ⟨4, rfl⟩, ⟨5, rfl⟩, trivial⟩), hM⟩
                        · replace hM := cf hb21517 hM
                          refine wg hS rfl rfl rfl hb21517 (ky (v := .pointer (some ⟨b20327, 0 + 0, none⟩)) hS (y_fld hS rfl fl53_0) rfl rfl fun a hS => ?_)
                          refine wg hS rfl rfl rfl hb21517 (ky (v := .bool e20318.Ring) hS (y_load hS rfl ty4 4 rfl id (us := [.bool e20318.Ring]) rfl rfl (fun _ => rfl)) rfl rfl fun a hS => ?_)
                          refine wg hS rfl rfl rfl hb21517 (ky (v := .bool e20318.Ring) hS (y_move hS rfl) rfl rfl fun a hS => ?_)
                          rcases bool2 (e20318.Ring) with hb21518 | hb21518
                          · replace hM := ct hb21518 hM
                            refine wg hS rfl rfl rfl hb21518 (ky (v := .pointer (some ⟨b21486, 0 + 2, none⟩)) hS (y_fld hS rfl fl70_2) rfl rfl fun a hS => ?_)
                            refine wg hS rfl rfl rfl hb21518 (ky (v := .agg #[.int .i64 q21492, .string q21493]) hS (y_load hS rfl ty28 6 rfl id (us := [.int .i64 q21492, .string q21493]) rfl rfl (fun h => by cases h)) rfl rfl fun a hS => ?_)
                            refine wg hS rfl rfl rfl hb21518 (ky (v := .pointer (some ⟨b21488, 0 + 2, none⟩)) hS (y_fld hS rfl fl70_2) rfl rfl fun a hS => ?_)
                            refine wg hS rfl rfl rfl hb21518 (ky (v := .agg #[.int .i64 p21496, .string p21497]) hS (y_load hS rfl ty28 7 rfl id (us := [.int .i64 p21496, .string p21497]) rfl rfl (fun h => by cases h)) rfl rfl fun a hS => ?_)
                            refine wg hS rfl rfl rfl hb21518 (ky (v := .bool (!((q21492 : Int) == p21496 && q21493.toList == p21497.toList))) hS (eq28n hS rfl rfl) rfl rfl fun a hS => ?_)
                            refine wg hS rfl rfl rfl hb21517 (ky (v := .bool (!((q21492 : Int) == p21496 && q21493.toList == p21497.toList))) hS (y_pickt hS rfl hb21518 rfl) rfl rfl fun a hS => ?_)
                            refine wl rfl (ky (v := .bool (!((q21492 : Int) == p21496 && q21493.toList == p21497.toList))) hS (y_pickf hS rfl hb21517 rfl) rfl rfl fun a hS => ?_)
                            refine wl rfl (ky (v := .bool (!((q21492 : Int) == p21496 && q21493.toList == p21497.toList))) hS (y_move hS rfl) rfl rfl fun a hS => ?_)
                            rcases bool2 (!((q21492 : Int) == p21496 && q21493.toList == p21497.toList)) with hb21519 | hb21519
                            · replace hM := ct hb21519 hM
                              refine wn hS rfl rfl rfl hb21519 rfl rfl fun a hS => ?_
                              refine wn hS rfl rfl rfl hb21519 rfl rfl fun a hS => ?_
                              refine wn hS rfl rfl rfl hb21519 rfl rfl fun a hS => ?_
                              refine wn hS rfl rfl rfl hb21519 rfl rfl fun a hS => ?_
                              refine wl rfl (ky (v := .bool true) hS (y_pickt hS rfl hb21519 rfl) rfl rfl fun a hS => ?_)
                              refine wpList_nil ?_
                              try simp only [Exit.then, Exit.inBlock, ↓reduceIte, Nat.reduceEqDiff]
                              exact ⟨true, (hS.meet [0, 1, 2, 3, 4, 5] (by decide) ⟨rfl, rfl, rfl, rfl, rfl, rfl, rfl, rfl, rfl, rfl, rfl, rfl, rfl, rfl, rfl, trivial⟩ ⟨rfl, rfl, rfl, rfl, rfl, rfl, trivial⟩ ⟨⟨0, rfl⟩, ⟨1, rfl⟩, ⟨2, rfl⟩, ⟨3, rfl⟩, ⟨4, rfl⟩, ⟨5, rfl⟩, trivial⟩), hM⟩
                            · replace hM := cf hb21519 hM
                              refine wg hS rfl rfl rfl hb21519 (ky (v := .pointer (some ⟨b21486, 0 + 2, none⟩)) hS (y_fld hS rfl fl70_2) rfl rfl fun a hS => ?_)
                              refine wg hS rfl rfl rfl hb21519 (ky (v := .agg #[.int .i64 q21492, .string q21493]) hS (y_load hS rfl ty28 6 rfl id (us := [.int .i64 q21492, .string q21493]) rfl rfl (fun h => by cases h)) rfl rfl fun a hS => ?_)
                              obtain ⟨u21520, hu21520, hM⟩ := bd hM
                              refine wg hS rfl rfl rfl hb21519 (k_call hS ci42 rfl rfl (ref23_Valid_c _ _ hS.dlt (KeyD.mk q21492 q21493) _ hu21520) fun _ w hR a hk hA => ?_)
                              have he := Eq.symm hR
                              subst he
                              have hS := hA [] (fun r hr => by cases hr) List.Pairwise.nil
                              refine wg hS rfl rfl rfl hb21519 (ky (v := .bool (!(u21520))) hS (y_not hS rfl) rfl rfl fun a hS => ?_)
                              refine wl rfl (ky (v := .bool (!(u21520))) hS (y_pickf hS rfl hb21519 rfl) rfl rfl fun a hS => ?_)
                              refine wpList_nil ?_
                              try simp only [Exit.then, Exit.inBlock, ↓reduceIte, Nat.reduceEqDiff]
                              exact ⟨(!(u21520)), (hS.meet [0, 1, 2, 3, 4, 5] (by decide) ⟨rfl, rfl, rfl, rfl, rfl, rfl, rfl, rfl, rfl, rfl, rfl, rfl, rfl, rfl, rfl, trivial⟩ ⟨rfl, rfl, rfl, rfl, rfl, rfl, trivial⟩ ⟨⟨0, rfl⟩, ⟨1, rfl⟩, ⟨2, rfl⟩, ⟨3, rfl⟩, ⟨4, rfl⟩, ⟨5, rfl⟩, trivial⟩), hM⟩
                          · replace hM := cf hb21518 hM
                            refine wn hS rfl rfl rfl hb21518 rfl rfl fun a hS => ?_
                            refine wn hS rfl rfl rfl hb21518 rfl rfl fun a hS => ?_
                            refine wn hS rfl rfl rfl hb21518 rfl rfl fun a hS => ?_
                            refine wn hS rfl rfl rfl hb21518 rfl rfl fun a hS => ?_
                            refine wn hS rfl rfl rfl hb21518 rfl rfl fun a hS => ?_
                            refine wg hS rfl rfl rfl hb21517 (ky (v := .bool false) hS (y_pickf hS rfl hb21518 rfl) rfl rfl fun a hS => ?_)
                            refine wl rfl (ky (v := .bool false) hS (y_pickf hS rfl hb21517 rfl) rfl rfl fun a hS => ?_)
                            refine wl rfl (ky (v := .bool false) hS (y_move hS rfl) rfl rfl fun a hS => ?_)
                            refine wg hS rfl rfl rfl rfl (ky (v := .pointer (some ⟨b21486, 0 + 2, none⟩)) hS (y_fld hS rfl fl70_2) rfl rfl fun a hS => ?_)
                            refine wg hS rfl rfl rfl rfl (ky (v := .agg #[.int .i64 q21492, .string q21493]) hS (y_load hS rfl ty28 6 rfl id (us := [.int .i64 q21492, .string q21493]) rfl rfl (fun h => by cases h)) rfl rfl fun a hS => ?_)
                            obtain ⟨u21522, hu21522, hM⟩ := bd hM
                            refine wg hS rfl rfl rfl rfl (k_call hS ci42 rfl rfl (ref23_Valid_c _ _ hS.dlt (KeyD.mk q21492 q21493) _ hu21522) fun _ w hR a hk hA => ?_)
                            have he := Eq.symm hR
                            subst he
                            have hS := hA [] (fun r hr => by cases hr) List.Pairwise.nil
                            refine wg hS rfl rfl rfl rfl (ky (v := .bool (!(u21522))) hS (y_not hS rfl) rfl rfl fun a hS => ?_)
                            refine wl rfl (ky (v := .bool (!(u21522))) hS (y_pickf hS rfl rfl rfl) rfl rfl fun a hS => ?_)
                            refine wpList_nil ?_
                            try simp only [Exit.then, Exit.inBlock, ↓reduceIte, Nat.reduceEqDiff]
                            exact ⟨(!(u21522)), (hS.meet [0, 1, 2, 3, 4, 5] (by decide) ⟨rfl, rfl, rfl, rfl, rfl, rfl, rfl, rfl, rfl, rfl, rfl, rfl, rfl, rfl, rfl, trivial⟩ ⟨rfl, rfl, rfl, rfl, rfl, rfl, trivial⟩ ⟨⟨0, rfl⟩, ⟨1, rfl⟩, ⟨2, rfl⟩, ⟨3, rfl⟩, ⟨4, rfl⟩, ⟨5, rfl⟩, trivial⟩), hM⟩
                    · rintro a w ⟨g21514, hS, hM⟩
                      unfold law24_ToyRings_j7 at hM
                      rcases bool2 (g21514) with hb21515 | hb21515
                      · replace hM := ct hb21515 hM
                        refine c_t hS rfl hb21515 ?_
                        refine wp_seq_k fun K948 hK948 => ?_
                        refine r_list ?_
                        refine wl rfl (ky (v := .bool false) hS (y_assign hS rfl) rfl rfl fun a hS => ?_)
                        refine wpList_nil ?_
                        try simp only [Exit.then, Exit.inBlock, ↓reduceIte, Nat.reduceEqDiff]
                        refine hK948 _ _ ?_
                        refine wp_ret ?_
                        injection hM with hM
                        subst hM
                        have hr := hf2 _ rfl
                        subst hr
                        replace hMo2 := el_out hMo2
                        have hM := hMo2
                        injection hM with hM
                        subst hM
                        have hr := hf1 _ rfl
                        subst hr
                        replace hMo1 := el_out hMo1
                        have hM := hMo1
                        injection hM with hM
                        subst hM
                        try simp only [Exit.then, Exit.inBlock, ↓reduceIte, Nat.reduceEqDiff]
                        refine ret_ok hS Tryd.results9 (res_tmp hS rfl res_nil) ?_
                        exact rfl
                      · replace hM := cf hb21515 hM
                        refine c_f hS rfl hb21515 ?_
                        refine wp_skip ?_
                        try simp only [Exit.then, Exit.inBlock, ↓reduceIte, Nat.reduceEqDiff]
                        refine hK946 _ _ ?_
                        refine r_list ?_
                        refine wl rfl (ky (v := .int .i64 (IntKind.i64.wrap (g21219 + 1))) hS (y_int hS rfl rfl rfl) rfl rfl fun a hS => ?_)
                        refine wl rfl (ky (v := .int .i64 (IntKind.i64.wrap (g21219 + 1))) hS (y_move hS rfl) rfl rfl fun a hS => ?_)
                        refine wpList_nil ?_
                        try simp only [Exit.then, Exit.inBlock, ↓reduceIte, Nat.reduceEqDiff]
                        exact ⟨IntKind.i64.wrap (g21219 + 1), (Option.some.inj hM).symm, (IntKind.i64.wrap (g21219 + 1)), rfl, (hS.meet [0, 1, 2, 3, 4, 5] (by decide) ⟨rfl, rfl, rfl, rfl, rfl, rfl, rfl, rfl, rfl, rfl, rfl, rfl, rfl, rfl, trivial⟩ ⟨rfl, rfl, rfl, rfl, rfl, rfl, trivial⟩ ⟨⟨0, rfl⟩, ⟨1, rfl⟩, ⟨2, rfl⟩, ⟨3, rfl⟩, ⟨4, rfl⟩, ⟨5, rfl⟩, trivial⟩)⟩
                · replace hM := cf hb21395 hM
                  refine c_f hS rfl hb21395 ?_
                  refine wp_exit ?_
                  try simp only [Exit.then, Exit.inBlock, ↓reduceIte, Nat.reduceEqDiff]
                  injection hM with hM
                  subst hM
                  have hr := hf2 _ rfl
                  subst hr
                  replace hMo2 := el_go hMo2
                  have hM : law24_ToyRings_j6 at_2 u9586 g16741 e20318 u20330 a20473 b20477 g20481 g20483 = some f1 := hMo2
                  exact ⟨(hS.meet [0, 1, 2, 3, 4, 5] (by decide) ⟨rfl, rfl, rfl, rfl, rfl, rfl, rfl, rfl, rfl, rfl, rfl, rfl, trivial⟩ ⟨rfl, rfl, rfl, rfl, rfl, rfl, trivial⟩ ⟨⟨0, rfl⟩, ⟨1, rfl⟩, ⟨2, rfl⟩, ⟨3, rfl⟩, ⟨4, rfl⟩, ⟨5, rfl⟩, trivial⟩), hM⟩
              · rintro a w ⟨hS, hM⟩
                unfold law24_ToyRings_j6 at hM
                refine seq_j (J := fun a w => ∃ (q20889 : Bool) (q20890 : ByteArray) (q20891 : Int) (q20892 : ByteArray) (p20893 : Bool) (p20894 : ByteArray) (p20895 : Int) (p20896 : ByteArray) (b20885 : Nat) (b20887 : Nat), St W0 No T 167 [(1, .int .i64 more_), (2, .int .i64 at_2), (7, .pointer (some ⟨bz9584_2, 0, none⟩)), (8, vz9587_3), (9, .int .i64 g16741), (10, .pointer (some ⟨b20327, 0, none⟩)), (11, .pointer (some ⟨b20332, 0, none⟩)), (13, v20474), (20, .pointer (some ⟨b20885, 0, none⟩)), (21, .pointer (some ⟨b20887, 0, none⟩)), (32, vz9587_3), (33, .int .i64 (u9586.1.length : Int)), (34, .int .i64 g16741)] [.own vz9587_3 53 R_RuleD.size clz9587_4, .own v20474 9 Rep.str.size cl20475, .box bz9584_2 [v20482, .int .i64 g20483] 84, .box b20327 [.bool e20318.Ring, v20319, .int .i64 e20318.Final, .int .i64 e20318.C] 53, .box b20332 [.int .i64 u20330.Kind, .string u20330.Text] 28, .box b20885 [.bool q20889, .string q20890, .int .i64 q20891, .string q20892] 70, .box b20887 [.bool p20893, .string p20894, .int .i64 p20895, .string p20896] 70] [RowsF R_RuleD clz9587_4 u9586.1, RowsF Rep.str cl20475 a20473, SlF (Rep.int .i64) v20482 g20481, SlF R_AskD v20319 e20318.Asks, LvF] a w ∧ law24_ToyRings_j5 at_2 u9586 g16741 e20318 u20330 a20473 g20481 g20483 q20889 q20890 q20891 q20892 p20893 p20894 p20895 p20896 = some f1) ?_ ?_
                · skip
                  obtain ⟨N21029, hN21029⟩ : ∃ N, N = w.heap.size := ⟨_, rfl⟩
                  replace hS := hS.fact (SzF N21029) (Nat.le_of_eq hN21029)
                  refine draws [(10, .new N21029), (11, .new N21029)] hS mixed rfl (fun c a d v w h => by cases d <;> exact h) fun w hQ hS => ?_
                  refine dy 0 (v := vz9587_3) rfl (by kernel_rfl) (by kernel_rfl) (by kernel_rfl) rfl hQ hS (y_move hS rfl) rfl rfl rfl fun a hS => ?_
                  refine dy (l := []) 1 (v := .agg #[.int .i64 u20330.Kind, .string u20330.Text]) rfl (by kernel_rfl) (by kernel_rfl) (by kernel_rfl) (by kernel_rfl) hQ hS (y_load hS rfl ty28 5 rfl eo_nil (us := [.int .i64 u20330.Kind, .string u20330.Text]) rfl rfl (fun h => by cases h)) rfl rfl rfl fun a hS => ?_
                  refine dy 2 (v := v20474) rfl (by kernel_rfl) (by kernel_rfl) (by kernel_rfl) rfl hQ hS (y_move hS rfl) rfl rfl rfl fun a hS => ?_
                  refine dy 4 (v := vz9587_3) rfl (by kernel_rfl) (by kernel_rfl) (by kernel_rfl) rfl hQ hS (y_move hS rfl) rfl rfl rfl fun a hS => ?_
                  obtain ⟨N21030, hN21031⟩ : ∃ N, N = w.heap.size := ⟨_, rfl⟩
                  refine wpE_upd 10 (.new N21030) _ (by kernel_rfl) (etNN (szLe hN21031 (hS.get 0 rfl))) ?_
                  replace hS := hS.fact (SzF N21030) (Nat.le_of_eq hN21031)
                  refine dy (l := [.new N21030]) 5 (v := .agg #[.int .i64 u20330.Kind, .string u20330.Text]) rfl (by kernel_rfl) (by kernel_rfl) (by kernel_rfl) (by kernel_rfl) hQ hS (y_load hS rfl ty28 5 rfl (eo_new hS hN21031 5 rfl rfl eo_nil) (us := [.int .i64 u20330.Kind, .string u20330.Text]) rfl rfl (fun h => by cases h)) rfl rfl rfl fun a hS => ?_
                  refine dy 6 (v := v20478) rfl (by kernel_rfl) (by kernel_rfl) (by kernel_rfl) rfl hQ hS (y_move hS rfl) rfl rfl rfl fun a hS => ?_
                  have hL := hS
                  replace hL := hL.freeze (R := R_RuleD) 0 rfl 2 rfl
                  replace hL := hL.freeze (R := Rep.str) 0 rfl 4 rfl
                  obtain ⟨u21032, hu21032, hM⟩ := bd hM
                  refine wpE_three (i := 3) (j := 8) (k := 9) rfl rfl rfl (by kernel_rfl) rfl rfl rfl ?_ ?_ ?_
                  · skip
                    have hL := hS
                    replace hL := hL.freeze (R := R_RuleD) 0 rfl 2 rfl
                    replace hL := hL.freeze (R := Rep.str) 0 rfl 4 rfl
                    refine id (k_call hS ci37 rfl rfl (toy_Turn_c _ _ hL.dlt (hL.get 9 rfl) u9586.1 u20330 a20473 _ _ (hL.get 1 rfl) (hL.get 0 rfl) _ hu21032) fun _ w hR a hk hA => ⟨stN (hk), ?_⟩)
                    have he := Eq.symm hR
                    subst he
                    have hS := hA [] (fun r hr => by cases hr) List.Pairwise.nil
                    have hL := hS
                    replace hL := hL.freeze (R := R_RuleD) 0 rfl 2 rfl
                    replace hL := hL.freeze (R := Rep.str) 1 rfl 5 rfl
                    obtain ⟨u21034, hu21034, hM⟩ := bd hM
                    refine wpE_three (i := 7) (j := 8) (k := 9) rfl rfl rfl (by kernel_rfl) rfl rfl rfl ?_ ?_ ?_
                    · skip
                      have hL := hS
                      replace hL := hL.freeze (R := R_RuleD) 0 rfl 2 rfl
                      replace hL := hL.freeze (R := Rep.str) 1 rfl 5 rfl
                      refine id (k_call hS ci37 rfl rfl (toy_Turn_c _ _ hL.dlt (hL.get 9 rfl) u9586.1 u20330 b20477 _ _ (hL.get 1 rfl) (hL.get 0 rfl) _ hu21034) fun _ w hR a hk hA => ⟨stN (hk), ?_⟩)
                      have he := Eq.symm hR
                      subst he
                      have hS := hA [] (fun r hr => by cases hr) List.Pairwise.nil
                      refine wpE_two (i := 8) (j := 9) rfl rfl (by kernel_rfl) rfl rfl ?_ ?_
                      · skip
                        have hz21039 := (hS.get 0 rfl : N21030 ≤ w.heap.size)
                        refine id (k_alloc hS ze70 rfl fun b21036 hnb21038 a w hk hS => ⟨stN (hk), ?_⟩)
                        refine wpE_upd 10 (.blk (some b21036)) _ (by kernel_rfl) (etNB (Nat.le_trans hz21039 hnb21038)) ?_
                        have hz21043 := (hS.get 1 rfl : N21029 ≤ w.heap.size)
                        refine wpE_one (i := 9) rfl (by kernel_rfl) rfl (k_alloc hS ze70 rfl fun b21040 hnb21042 a w hk hS => ⟨stN (hk), ?_⟩)
                        refine wpE_upd 11 (.blk (some b21040)) _ (by kernel_rfl) (etNB (Nat.le_trans hz21043 hnb21042)) ?_
                        refine wpE_one (i := 10) rfl (by kernel_rfl) rfl (k_store hS rfl rfl (us := [.bool u21032.Done, .string u21032.Value, .int .i64 u21032.Ask.Kind, .string u21032.Ask.Text]) rfl ty70 1 rfl rfl rfl (oc rfl (oc rfl (oc rfl (oc rfl on)))) fun w hk hS => ⟨stM rfl hk etBox, ?_⟩)
                        refine wpE_one (i := 11) rfl (by kernel_rfl) rfl (k_store hS rfl rfl (us := [.bool u21034.Done, .string u21034.Value, .int .i64 u21034.Ask.Kind, .string u21034.Ask.Text]) rfl ty70 0 rfl rfl rfl (oc rfl (oc rfl (oc rfl (oc rfl on)))) fun w hk hS => ⟨stM rfl hk etBox, ?_⟩)
                        refine wpE_done (by kernel_rfl) ?_ _
                        try simp only [Exit.then, Exit.inBlock, ↓reduceIte, Nat.reduceEqDiff]
                        exact ⟨u21032.Done, u21032.Value, u21032.Ask.Kind, u21032.Ask.Text, u21034.Done, u21034.Value, u21034.Ask.Kind, u21034.Ask.Text, b21036, b21040, (hS.meet [2, 3, 5, 6, 7, 1, 0] (by decide) ⟨rfl, rfl, rfl, rfl, rfl, rfl, rfl, rfl, rfl, rfl, rfl, rfl, rfl, trivial⟩ ⟨rfl, rfl, rfl, rfl, rfl, rfl, rfl, trivial⟩ ⟨⟨2, rfl⟩, ⟨3, rfl⟩, ⟨5, rfl⟩, ⟨6, rfl⟩, ⟨7, rfl⟩, trivial⟩), hM⟩
                      · skip
                        have hz21039 := (hS.get 1 rfl : N21029 ≤ w.heap.size)
                        refine id (k_alloc hS ze70 rfl fun b21036 hnb21038 a w hk hS => ⟨stN (hk), ?_⟩)
                        refine wpE_upd 11 (.blk (some b21036)) _ (by kernel_rfl) (etNB (Nat.le_trans hz21039 hnb21038)) ?_
                        have hz21043 := (hS.get 0 rfl : N21030 ≤ w.heap.size)
                        refine wpE_one (i := 8) rfl (by kernel_rfl) rfl (k_alloc hS ze70 rfl fun b21040 hnb21042 a w hk hS => ⟨stN (hk), ?_⟩)
                        refine wpE_upd 10 (.blk (some b21040)) _ (by kernel_rfl) (etNB (Nat.le_trans hz21043 hnb21042)) ?_
                        refine wpE_one (i := 10) rfl (by kernel_rfl) rfl (k_store hS rfl rfl (us := [.bool u21032.Done, .string u21032.Value, .int .i64 u21032.Ask.Kind, .string u21032.Ask.Text]) rfl ty70 0 rfl rfl rfl (oc rfl (oc rfl (oc rfl (oc rfl on)))) fun w hk hS => ⟨stM rfl hk etBox, ?_⟩)
                        refine wpE_one (i := 11) rfl (by kernel_rfl) rfl (k_store hS rfl rfl (us := [.bool u21034.Done, .string u21034.Value, .int .i64 u21034.Ask.Kind, .string u21034.Ask.Text]) rfl ty70 1 rfl rfl rfl (oc rfl (oc rfl (oc rfl (oc rfl on)))) fun w hk hS => ⟨stM rfl hk etBox, ?_⟩)
                        refine wpE_done (by kernel_rfl) ?_ _
                        try simp only [Exit.then, Exit.inBlock, ↓reduceIte, Nat.reduceEqDiff]
                        exact ⟨u21032.Done, u21032.Value, u21032.Ask.Kind, u21032.Ask.Text, u21034.Done, u21034.Value, u21034.Ask.Kind, u21034.Ask.Text, b21040, b21036, (hS.meet [2, 3, 5, 6, 7, 0, 1] (by decide) ⟨rfl, rfl, rfl, rfl, rfl, rfl, rfl, rfl, rfl, rfl, rfl, rfl, rfl, trivial⟩ ⟨rfl, rfl, rfl, rfl, rfl, rfl, rfl, trivial⟩ ⟨⟨2, rfl⟩, ⟨3, rfl⟩, ⟨5, rfl⟩, ⟨6, rfl⟩, ⟨7, rfl⟩, trivial⟩), hM⟩
                    · skip
                      have hz21038 := (hS.get 0 rfl : N21030 ≤ w.heap.size)
                      refine id (k_alloc hS ze70 rfl fun b21035 hnb21037 a w hk hS => ⟨stN (hk), ?_⟩)
                      refine wpE_upd 10 (.blk (some b21035)) _ (by kernel_rfl) (etNB (Nat.le_trans hz21038 hnb21037)) ?_
                      have hL := hS
                      replace hL := hL.freeze (R := R_RuleD) 1 rfl 2 rfl
                      replace hL := hL.freeze (R := Rep.str) 2 rfl 5 rfl
                      refine wpE_two (i := 7) (j := 9) rfl rfl (by kernel_rfl) rfl rfl ?_ ?_
                      · skip
                        have hL := hS
                        replace hL := hL.freeze (R := R_RuleD) 1 rfl 2 rfl
                        replace hL := hL.freeze (R := Rep.str) 2 rfl 5 rfl
                        refine id (k_call hS ci37 rfl rfl (toy_Turn_c _ _ hL.dlt (hL.get 9 rfl) u9586.1 u20330 b20477 _ _ (hL.get 1 rfl) (hL.get 0 rfl) _ hu21034) fun _ w hR a hk hA => ⟨stN (hk), ?_⟩)
                        have he := Eq.symm hR
                        subst he
                        have hS := hA [] (fun r hr => by cases hr) List.Pairwise.nil
                        have hz21043 := (hS.get 1 rfl : N21029 ≤ w.heap.size)
                        refine wpE_one (i := 9) rfl (by kernel_rfl) rfl (k_alloc hS ze70 rfl fun b21040 hnb21042 a w hk hS => ⟨stN (hk), ?_⟩)
                        refine wpE_upd 11 (.blk (some b21040)) _ (by kernel_rfl) (etNB (Nat.le_trans hz21043 hnb21042)) ?_
                        refine wpE_one (i := 10) rfl (by kernel_rfl) rfl (k_store hS rfl rfl (us := [.bool u21032.Done, .string u21032.Value, .int .i64 u21032.Ask.Kind, .string u21032.Ask.Text]) rfl ty70 1 rfl rfl rfl (oc rfl (oc rfl (oc rfl (oc rfl on)))) fun w hk hS => ⟨stM rfl hk etBox, ?_⟩)
                        refine wpE_one (i := 11) rfl (by kernel_rfl) rfl (k_store hS rfl rfl (us := [.bool u21034.Done, .string u21034.Value, .int .i64 u21034.Ask.Kind, .string u21034.Ask.Text]) rfl ty70 0 rfl rfl rfl (oc rfl (oc rfl (oc rfl (oc rfl on)))) fun w hk hS => ⟨stM rfl hk etBox, ?_⟩)
                        refine wpE_done (by kernel_rfl) ?_ _
                        try simp only [Exit.then, Exit.inBlock, ↓reduceIte, Nat.reduceEqDiff]
                        exact ⟨u21032.Done, u21032.Value, u21032.Ask.Kind, u21032.Ask.Text, u21034.Done, u21034.Value, u21034.Ask.Kind, u21034.Ask.Text, b21035, b21040, (hS.meet [2, 3, 5, 6, 7, 1, 0] (by decide) ⟨rfl, rfl, rfl, rfl, rfl, rfl, rfl, rfl, rfl, rfl, rfl, rfl, rfl, trivial⟩ ⟨rfl, rfl, rfl, rfl, rfl, rfl, rfl, trivial⟩ ⟨⟨2, rfl⟩, ⟨3, rfl⟩, ⟨5, rfl⟩, ⟨6, rfl⟩, ⟨7, rfl⟩, trivial⟩), hM⟩
                      · skip
                        have hz21042 := (hS.get 1 rfl : N21029 ≤ w.heap.size)
                        refine id (k_alloc hS ze70 rfl fun b21039 hnb21041 a w hk hS => ⟨stN (hk), ?_⟩)
                        refine wpE_upd 11 (.blk (some b21039)) _ (by kernel_rfl) (etNB (Nat.le_trans hz21042 hnb21041)) ?_
                        have hL := hS
                        replace hL := hL.freeze (R := R_RuleD) 2 rfl 2 rfl
                        replace hL := hL.freeze (R := Rep.str) 3 rfl 5 rfl
                        refine wpE_one (i := 7) rfl (by kernel_rfl) rfl (k_call hS ci37 rfl rfl (toy_Turn_c _ _ hL.dlt (hL.get 9 rfl) u9586.1 u20330 b20477 _ _ (hL.get 1 rfl) (hL.get 0 rfl) _ hu21034) fun _ w hR a hk hA => ⟨stN (hk), ?_⟩)
                        have he := Eq.symm hR
                        subst he
                        have hS := hA [] (fun r hr => by cases hr) List.Pairwise.nil
                        refine wpE_one (i := 10) rfl (by kernel_rfl) rfl (k_store hS rfl rfl (us := [.bool u21032.Done, .string u21032.Value, .int .i64 u21032.Ask.Kind, .string u21032.Ask.Text]) rfl ty70 1 rfl rfl rfl (oc rfl (oc rfl (oc rfl (oc rfl on)))) fun w hk hS => ⟨stM rfl hk etBox, ?_⟩)
                        refine wpE_one (i := 11) rfl (by kernel_rfl) rfl (k_store hS rfl rfl (us := [.bool u21034.Done, .string u21034.Value, .int .i64 u21034.Ask.Kind, .string u21034.Ask.Text]) rfl ty70 0 rfl rfl rfl (oc rfl (oc rfl (oc rfl (oc rfl on)))) fun w hk hS => ⟨stM rfl hk etBox, ?_⟩)
                        refine wpE_done (by kernel_rfl) ?_ _
                        try simp only [Exit.then, Exit.inBlock, ↓reduceIte, Nat.reduceEqDiff]
                        exact ⟨u21032.Done, u21032.Value, u21032.Ask.Kind, u21032.Ask.Text, u21034.Done, u21034.Value, u21034.Ask.Kind, u21034.Ask.Text, b21035, b21039, (hS.meet [2, 3, 5, 6, 7, 1, 0] (by decide) ⟨rfl, rfl, rfl, rfl, rfl, rfl, rfl, rfl, rfl, rfl, rfl, rfl, rfl, trivial⟩ ⟨rfl, rfl, rfl, rfl, rfl, rfl, rfl, trivial⟩ ⟨⟨2, rfl⟩, ⟨3, rfl⟩, ⟨5, rfl⟩, ⟨6, rfl⟩, ⟨7, rfl⟩, trivial⟩), hM⟩
                    · skip
                      have hz21038 := (hS.get 1 rfl : N21029 ≤ w.heap.size)
                      refine id (k_alloc hS ze70 rfl fun b21035 hnb21037 a w hk hS => ⟨stN (hk), ?_⟩)
                      refine wpE_upd 11 (.blk (some b21035)) _ (by kernel_rfl) (etNB (Nat.le_trans hz21038 hnb21037)) ?_
                      have hL := hS
                      replace hL := hL.freeze (R := R_RuleD) 1 rfl 2 rfl
                      replace hL := hL.freeze (R := Rep.str) 2 rfl 5 rfl
                      refine wpE_two (i := 7) (j := 8) rfl rfl (by kernel_rfl) rfl rfl ?_ ?_
                      · skip
                        have hL := hS
                        replace hL := hL.freeze (R := R_RuleD) 1 rfl 2 rfl
                        replace hL := hL.freeze (R := Rep.str) 2 rfl 5 rfl
                        refine id (k_call hS ci37 rfl rfl (toy_Turn_c _ _ hL.dlt (hL.get 9 rfl) u9586.1 u20330 b20477 _ _ (hL.get 1 rfl) (hL.get 0 rfl) _ hu21034) fun _ w hR a hk hA => ⟨stN (hk), ?_⟩)
                        have he := Eq.symm hR
                        subst he
                        have hS := hA [] (fun r hr => by cases hr) List.Pairwise.nil
                        have hz21043 := (hS.get 0 rfl : N21030 ≤ w.heap.size)
                        refine wpE_one (i := 8) rfl (by kernel_rfl) rfl (k_alloc hS ze70 rfl fun b21040 hnb21042 a w hk hS => ⟨stN (hk), ?_⟩)
                        refine wpE_upd 10 (.blk (some b21040)) _ (by kernel_rfl) (etNB (Nat.le_trans hz21043 hnb21042)) ?_
                        refine wpE_one (i := 10) rfl (by kernel_rfl) rfl (k_store hS rfl rfl (us := [.bool u21032.Done, .string u21032.Value, .int .i64 u21032.Ask.Kind, .string u21032.Ask.Text]) rfl ty70 0 rfl rfl rfl (oc rfl (oc rfl (oc rfl (oc rfl on)))) fun w hk hS => ⟨stM rfl hk etBox, ?_⟩)
                        refine wpE_one (i := 11) rfl (by kernel_rfl) rfl (k_store hS rfl rfl (us := [.bool u21034.Done, .string u21034.Value, .int .i64 u21034.Ask.Kind, .string u21034.Ask.Text]) rfl ty70 1 rfl rfl rfl (oc rfl (oc rfl (oc rfl (oc rfl on)))) fun w hk hS => ⟨stM rfl hk etBox, ?_⟩)
                        refine wpE_done (by kernel_rfl) ?_ _
                        try simp only [Exit.then, Exit.inBlock, ↓reduceIte, Nat.reduceEqDiff]
                        exact ⟨u21032.Done, u21032.Value, u21032.Ask.Kind, u21032.Ask.Text, u21034.Done, u21034.Value, u21034.Ask.Kind, u21034.Ask.Text, b21040, b21035, (hS.meet [2, 3, 5, 6, 7, 0, 1] (by decide) ⟨rfl, rfl, rfl, rfl, rfl, rfl, rfl, rfl, rfl, rfl, rfl, rfl, rfl, trivial⟩ ⟨rfl, rfl, rfl, rfl, rfl, rfl, rfl, trivial⟩ ⟨⟨2, rfl⟩, ⟨3, rfl⟩, ⟨5, rfl⟩, ⟨6, rfl⟩, ⟨7, rfl⟩, trivial⟩), hM⟩
                      · skip
                        have hz21042 := (hS.get 0 rfl : N21030 ≤ w.heap.size)
                        refine id (k_alloc hS ze70 rfl fun b21039 hnb21041 a w hk hS => ⟨stN (hk), ?_⟩)
                        refine wpE_upd 10 (.blk (some b21039)) _ (by kernel_rfl) (etNB (Nat.le_trans hz21042 hnb21041)) ?_
                        have hL := hS
                        replace hL := hL.freeze (R := R_RuleD) 2 rfl 2 rfl
                        replace hL := hL.freeze (R := Rep.str) 3 rfl 5 rfl
                        refine wpE_one (i := 7) rfl (by kernel_rfl) rfl (k_call hS ci37 rfl rfl (toy_Turn_c _ _ hL.dlt (hL.get 9 rfl) u9586.1 u20330 b20477 _ _ (hL.get 1 rfl) (hL.get 0 rfl) _ hu21034) fun _ w hR a hk hA => ⟨stN (hk), ?_⟩)
                        have he := Eq.symm hR
                        subst he
                        have hS := hA [] (fun r hr => by cases hr) List.Pairwise.nil
                        refine wpE_one (i := 10) rfl (by kernel_rfl) rfl (k_store hS rfl rfl (us := [.bool u21032.Done, .string u21032.Value, .int .i64 u21032.Ask.Kind, .string u21032.Ask.Text]) rfl ty70 0 rfl rfl rfl (oc rfl (oc rfl (oc rfl (oc rfl on)))) fun w hk hS => ⟨stM rfl hk etBox, ?_⟩)
                        refine wpE_one (i := 11) rfl (by kernel_rfl) rfl (k_store hS rfl rfl (us := [.bool u21034.Done, .string u21034.Value, .int .i64 u21034.Ask.Kind, .string u21034.Ask.Text]) rfl ty70 1 rfl rfl rfl (oc rfl (oc rfl (oc rfl (oc rfl on)))) fun w hk hS => ⟨stM rfl hk etBox, ?_⟩)
                        refine wpE_done (by kernel_rfl) ?_ _
                        try simp only [Exit.then, Exit.inBlock, ↓reduceIte, Nat.reduceEqDiff]
                        exact ⟨u21032.Done, u21032.Value, u21032.Ask.Kind, u21032.Ask.Text, u21034.Done, u21034.Value, u21034.Ask.Kind, u21034.Ask.Text, b21039, b21035, (hS.meet [2, 3, 5, 6, 7, 0, 1] (by decide) ⟨rfl, rfl, rfl, rfl, rfl, rfl, rfl, rfl, rfl, rfl, rfl, rfl, rfl, trivial⟩ ⟨rfl, rfl, rfl, rfl, rfl, rfl, rfl, trivial⟩ ⟨⟨2, rfl⟩, ⟨3, rfl⟩, ⟨5, rfl⟩, ⟨6, rfl⟩, ⟨7, rfl⟩, trivial⟩), hM⟩
                  · skip
                    have hz21036 := (hS.get 0 rfl : N21030 ≤ w.heap.size)
                    refine id (k_alloc hS ze70 rfl fun b21033 hnb21035 a w hk hS => ⟨stN (hk), ?_⟩)
                    refine wpE_upd 10 (.blk (some b21033)) _ (by kernel_rfl) (etNB (Nat.le_trans hz21036 hnb21035)) ?_
                    have hL := hS
                    replace hL := hL.freeze (R := R_RuleD) 1 rfl 2 rfl
                    replace hL := hL.freeze (R := Rep.str) 1 rfl 4 rfl
                    refine wpE_two (i := 3) (j := 9) rfl rfl (by kernel_rfl) rfl rfl ?_ ?_
                    · skip
                      have hL := hS
                      replace hL := hL.freeze (R := R_RuleD) 1 rfl 2 rfl
                      replace hL := hL.freeze (R := Rep.str) 1 rfl 4 rfl
                      refine id (k_call hS ci37 rfl rfl (toy_Turn_c _ _ hL.dlt (hL.get 9 rfl) u9586.1 u20330 a20473 _ _ (hL.get 1 rfl) (hL.get 0 rfl) _ hu21032) fun _ w hR a hk hA => ⟨stN (hk), ?_⟩)
                      have he := Eq.symm hR
                      subst he
                      have hS := hA [] (fun r hr => by cases hr) List.Pairwise.nil
                      have hL := hS
                      replace hL := hL.freeze (R := R_RuleD) 1 rfl 2 rfl
                      replace hL := hL.freeze (R := Rep.str) 2 rfl 5 rfl
                      obtain ⟨u21038, hu21038, hM⟩ := bd hM
                      refine wpE_two (i := 7) (j := 9) rfl rfl (by kernel_rfl) rfl rfl ?_ ?_
                      · skip
                        have hL := hS
                        replace hL := hL.freeze (R := R_RuleD) 1 rfl 2 rfl
                        replace hL := hL.freeze (R := Rep.str) 2 rfl 5 rfl
                        refine id (k_call hS ci37 rfl rfl (toy_Turn_c _ _ hL.dlt (hL.get 9 rfl) u9586.1 u20330 b20477 _ _ (hL.get 1 rfl) (hL.get 0 rfl) _ hu21038) fun _ w hR a hk hA => ⟨stN (hk), ?_⟩)
                        have he := Eq.symm hR
                        subst he
                        have hS := hA [] (fun r hr => by cases hr) List.Pairwise.nil
                        have hz21043 := (hS.get 1 rfl : N21029 ≤ w.heap.size)
                        refine wpE_one (i := 9) rfl (by kernel_rfl) rfl (k_alloc hS ze70 rfl fun b21040 hnb21042 a w hk hS => ⟨stN (hk), ?_⟩)
                        refine wpE_upd 11 (.blk (some b21040)) _ (by kernel_rfl) (etNB (Nat.le_trans hz21043 hnb21042)) ?_
                        refine wpE_one (i := 10) rfl (by kernel_rfl) rfl (k_store hS rfl rfl (us := [.bool u21032.Done, .string u21032.Value, .int .i64 u21032.Ask.Kind, .string u21032.Ask.Text]) rfl ty70 1 rfl rfl rfl (oc rfl (oc rfl (oc rfl (oc rfl on)))) fun w hk hS => ⟨stM rfl hk etBox, ?_⟩)
                        refine wpE_one (i := 11) rfl (by kernel_rfl) rfl (k_store hS rfl rfl (us := [.bool u21038.Done, .string u21038.Value, .int .i64 u21038.Ask.Kind, .string u21038.Ask.Text]) rfl ty70 0 rfl rfl rfl (oc rfl (oc rfl (oc rfl (oc rfl on)))) fun w hk hS => ⟨stM rfl hk etBox, ?_⟩)
                        refine wpE_done (by kernel_rfl) ?_ _
                        try simp only [Exit.then, Exit.inBlock, ↓reduceIte, Nat.reduceEqDiff]
                        exact ⟨u21032.Done, u21032.Value, u21032.Ask.Kind, u21032.Ask.Text, u21038.Done, u21038.Value, u21038.Ask.Kind, u21038.Ask.Text, b21033, b21040, (hS.meet [2, 3, 5, 6, 7, 1, 0] (by decide) ⟨rfl, rfl, rfl, rfl, rfl, rfl, rfl, rfl, rfl, rfl, rfl, rfl, rfl, trivial⟩ ⟨rfl, rfl, rfl, rfl, rfl, rfl, rfl, trivial⟩ ⟨⟨2, rfl⟩, ⟨3, rfl⟩, ⟨5, rfl⟩, ⟨6, rfl⟩, ⟨7, rfl⟩, trivial⟩), hM⟩
                      · skip
                        have hz21042 := (hS.get 1 rfl : N21029 ≤ w.heap.size)
                        refine id (k_alloc hS ze70 rfl fun b21039 hnb21041 a w hk hS => ⟨stN (hk), ?_⟩)
                        refine wpE_upd 11 (.blk (some b21039)) _ (by kernel_rfl) (etNB (Nat.le_trans hz21042 hnb21041)) ?_
                        have hL := hS
                        replace hL := hL.freeze (R := R_RuleD) 2 rfl 2 rfl
                        replace hL := hL.freeze (R := Rep.str) 3 rfl 5 rfl
                        refine wpE_one (i := 7) rfl (by kernel_rfl) rfl (k_call hS ci37 rfl rfl (toy_Turn_c _ _ hL.dlt (hL.get 9 rfl) u9586.1 u20330 b20477 _ _ (hL.get 1 rfl) (hL.get 0 rfl) _ hu21038) fun _ w hR a hk hA => ⟨stN (hk), ?_⟩)
                        have he := Eq.symm hR
                        subst he
                        have hS := hA [] (fun r hr => by cases hr) List.Pairwise.nil
                        refine wpE_one (i := 10) rfl (by kernel_rfl) rfl (k_store hS rfl rfl (us := [.bool u21032.Done, .string u21032.Value, .int .i64 u21032.Ask.Kind, .string u21032.Ask.Text]) rfl ty70 1 rfl rfl rfl (oc rfl (oc rfl (oc rfl (oc rfl on)))) fun w hk hS => ⟨stM rfl hk etBox, ?_⟩)
                        refine wpE_one (i := 11) rfl (by kernel_rfl) rfl (k_store hS rfl rfl (us := [.bool u21038.Done, .string u21038.Value, .int .i64 u21038.Ask.Kind, .string u21038.Ask.Text]) rfl ty70 0 rfl rfl rfl (oc rfl (oc rfl (oc rfl (oc rfl on)))) fun w hk hS => ⟨stM rfl hk etBox, ?_⟩)
                        refine wpE_done (by kernel_rfl) ?_ _
                        try simp only [Exit.then, Exit.inBlock, ↓reduceIte, Nat.reduceEqDiff]
                        exact ⟨u21032.Done, u21032.Value, u21032.Ask.Kind, u21032.Ask.Text, u21038.Done, u21038.Value, u21038.Ask.Kind, u21038.Ask.Text, b21033, b21039, (hS.meet [2, 3, 5, 6, 7, 1, 0] (by decide) ⟨rfl, rfl, rfl, rfl, rfl, rfl, rfl, rfl, rfl, rfl, rfl, rfl, rfl, trivial⟩ ⟨rfl, rfl, rfl, rfl, rfl, rfl, rfl, trivial⟩ ⟨⟨2, rfl⟩, ⟨3, rfl⟩, ⟨5, rfl⟩, ⟨6, rfl⟩, ⟨7, rfl⟩, trivial⟩), hM⟩
                    · skip
                      have hz21040 := (hS.get 1 rfl : N21029 ≤ w.heap.size)
                      refine id (k_alloc hS ze70 rfl fun b21037 hnb21039 a w hk hS => ⟨stN (hk), ?_⟩)
                      refine wpE_upd 11 (.blk (some b21037)) _ (by kernel_rfl) (etNB (Nat.le_trans hz21040 hnb21039)) ?_
                      have hL := hS
                      replace hL := hL.freeze (R := R_RuleD) 2 rfl 2 rfl
                      replace hL := hL.freeze (R := Rep.str) 2 rfl 4 rfl
                      refine wpE_one (i := 3) rfl (by kernel_rfl) rfl (k_call hS ci37 rfl rfl (toy_Turn_c _ _ hL.dlt (hL.get 9 rfl) u9586.1 u20330 a20473 _ _ (hL.get 1 rfl) (hL.get 0 rfl) _ hu21032) fun _ w hR a hk hA => ⟨stN (hk), ?_⟩)
                      have he := Eq.symm hR
                      subst he
                      have hS := hA [] (fun r hr => by cases hr) List.Pairwise.nil
                      have hL := hS
                      replace hL := hL.freeze (R := R_RuleD) 2 rfl 2 rfl
                      replace hL := hL.freeze (R := Rep.str) 3 rfl 5 rfl
                      obtain ⟨u21042, hu21042, hM⟩ := bd hM
                      refine wpE_one (i := 7) rfl (by kernel_rfl) rfl (k_call hS ci37 rfl rfl (toy_Turn_c _ _ hL.dlt (hL.get 9 rfl) u9586.1 u20330 b20477 _ _ (hL.get 1 rfl) (hL.get 0 rfl) _ hu21042) fun _ w hR a hk hA => ⟨stN (hk), ?_⟩)
                      have he := Eq.symm hR
                      subst he
                      have hS := hA [] (fun r hr => by cases hr) List.Pairwise.nil
                      refine wpE_one (i := 10) rfl (by kernel_rfl) rfl (k_store hS rfl rfl (us := [.bool u21032.Done, .string u21032.Value, .int .i64 u21032.Ask.Kind, .string u21032.Ask.Text]) rfl ty70 1 rfl rfl rfl (oc rfl (oc rfl (oc rfl (oc rfl on)))) fun w hk hS => ⟨stM rfl hk etBox, ?_⟩)
                      refine wpE_one (i := 11) rfl (by kernel_rfl) rfl (k_store hS rfl rfl (us := [.bool u21042.Done, .string u21042.Value, .int .i64 u21042.Ask.Kind, .string u21042.Ask.Text]) rfl ty70 0 rfl rfl rfl (oc rfl (oc rfl (oc rfl (oc rfl on)))) fun w hk hS => ⟨stM rfl hk etBox, ?_⟩)
                      refine wpE_done (by kernel_rfl) ?_ _
                      try simp only [Exit.then, Exit.inBlock, ↓reduceIte, Nat.reduceEqDiff]
                      exact ⟨u21032.Done, u21032.Value, u21032.Ask.Kind, u21032.Ask.Text, u21042.Done, u21042.Value, u21042.Ask.Kind, u21042.Ask.Text, b21033, b21037, (hS.meet [2, 3, 5, 6, 7, 1, 0] (by decide) ⟨rfl, rfl, rfl, rfl, rfl, rfl, rfl, rfl, rfl, rfl, rfl, rfl, rfl, trivial⟩ ⟨rfl, rfl, rfl, rfl, rfl, rfl, rfl, trivial⟩ ⟨⟨2, rfl⟩, ⟨3, rfl⟩, ⟨5, rfl⟩, ⟨6, rfl⟩, ⟨7, rfl⟩, trivial⟩), hM⟩
                  · skip
                    have hz21036 := (hS.get 1 rfl : N21029 ≤ w.heap.size)
                    refine id (k_alloc hS ze70 rfl fun b21033 hnb21035 a w hk hS => ⟨stN (hk), ?_⟩)
                    refine wpE_upd 11 (.blk (some b21033)) _ (by kernel_rfl) (etNB (Nat.le_trans hz21036 hnb21035)) ?_
                    have hL := hS
                    replace hL := hL.freeze (R := R_RuleD) 1 rfl 2 rfl
                    replace hL := hL.freeze (R := Rep.str) 1 rfl 4 rfl
                    refine wpE_two (i := 3) (j := 8) rfl rfl (by kernel_rfl) rfl rfl ?_ ?_
                    · skip
                      have hL := hS
                      replace hL := hL.freeze (R := R_RuleD) 1 rfl 2 rfl
                      replace hL := hL.freeze (R := Rep.str) 1 rfl 4 rfl
                      refine id (k_call hS ci37 rfl rfl (toy_Turn_c _ _ hL.dlt (hL.get 9 rfl) u9586.1 u20330 a20473 _ _ (hL.get 1 rfl) (hL.get 0 rfl) _ hu21032) fun _ w hR a hk hA => ⟨stN (hk), ?_⟩)
                      have he := Eq.symm hR
                      subst he
                      have hS := hA [] (fun r hr => by cases hr) List.Pairwise.nil
                      have hL := hS
                      replace hL := hL.freeze (R := R_RuleD) 1 rfl 2 rfl
                      replace hL := hL.freeze (R := Rep.str) 2 rfl 5 rfl
                      obtain ⟨u21038, hu21038, hM⟩ := bd hM
                      refine wpE_two (i := 7) (j := 8) rfl rfl (by kernel_rfl) rfl rfl ?_ ?_
                      · skip
                        have hL := hS
                        replace hL := hL.freeze (R := R_RuleD) 1 rfl 2 rfl
                        replace hL := hL.freeze (R := Rep.str) 2 rfl 5 rfl
                        refine id (k_call hS ci37 rfl rfl (toy_Turn_c _ _ hL.dlt (hL.get 9 rfl) u9586.1 u20330 b20477 _ _ (hL.get 1 rfl) (hL.get 0 rfl) _ hu21038) fun _ w hR a hk hA => ⟨stN (hk), ?_⟩)
                        have he := Eq.symm hR
                        subst he
                        have hS := hA [] (fun r hr => by cases hr) List.Pairwise.nil
                        have hz21043 := (hS.get 0 rfl : N21030 ≤ w.heap.size)
                        refine wpE_one (i := 8) rfl (by kernel_rfl) rfl (k_alloc hS ze70 rfl fun b21040 hnb21042 a w hk hS => ⟨stN (hk), ?_⟩)
                        refine wpE_upd 10 (.blk (some b21040)) _ (by kernel_rfl) (etNB (Nat.le_trans hz21043 hnb21042)) ?_
                        refine wpE_one (i := 10) rfl (by kernel_rfl) rfl (k_store hS rfl rfl (us := [.bool u21032.Done, .string u21032.Value, .int .i64 u21032.Ask.Kind, .string u21032.Ask.Text]) rfl ty70 0 rfl rfl rfl (oc rfl (oc rfl (oc rfl (oc rfl on)))) fun w hk hS => ⟨stM rfl hk etBox, ?_⟩)
                        refine wpE_one (i := 11) rfl (by kernel_rfl) rfl (k_store hS rfl rfl (us := [.bool u21038.Done, .string u21038.Value, .int .i64 u21038.Ask.Kind, .string u21038.Ask.Text]) rfl ty70 1 rfl rfl rfl (oc rfl (oc rfl (oc rfl (oc rfl on)))) fun w hk hS => ⟨stM rfl hk etBox, ?_⟩)
                        refine wpE_done (by kernel_rfl) ?_ _
                        try simp only [Exit.then, Exit.inBlock, ↓reduceIte, Nat.reduceEqDiff]
                        exact ⟨u21032.Done, u21032.Value, u21032.Ask.Kind, u21032.Ask.Text, u21038.Done, u21038.Value, u21038.Ask.Kind, u21038.Ask.Text, b21040, b21033, (hS.meet [2, 3, 5, 6, 7, 0, 1] (by decide) ⟨rfl, rfl, rfl, rfl, rfl, rfl, rfl, rfl, rfl, rfl, rfl, rfl, rfl, trivial⟩ ⟨rfl, rfl, rfl, rfl, rfl, rfl, rfl, trivial⟩ ⟨⟨2, rfl⟩, ⟨3, rfl⟩, ⟨5, rfl⟩, ⟨6, rfl⟩, ⟨7, rfl⟩, trivial⟩), hM⟩
                      · skip
                        have hz21042 := (hS.get 0 rfl : N21030 ≤ w.heap.size)
                        refine id (k_alloc hS ze70 rfl fun b21039 hnb21041 a w hk hS => ⟨stN (hk), ?_⟩)
                        refine wpE_upd 10 (.blk (some b21039)) _ (by kernel_rfl) (etNB (Nat.le_trans hz21042 hnb21041)) ?_
                        have hL := hS
                        replace hL := hL.freeze (R := R_RuleD) 2 rfl 2 rfl
                        replace hL := hL.freeze (R := Rep.str) 3 rfl 5 rfl
                        refine wpE_one (i := 7) rfl (by kernel_rfl) rfl (k_call hS ci37 rfl rfl (toy_Turn_c _ _ hL.dlt (hL.get 9 rfl) u9586.1 u20330 b20477 _ _ (hL.get 1 rfl) (hL.get 0 rfl) _ hu21038) fun _ w hR a hk hA => ⟨stN (hk), ?_⟩)
                        have he := Eq.symm hR
                        subst he
                        have hS := hA [] (fun r hr => by cases hr) List.Pairwise.nil
                        refine wpE_one (i := 10) rfl (by kernel_rfl) rfl (k_store hS rfl rfl (us := [.bool u21032.Done, .string u21032.Value, .int .i64 u21032.Ask.Kind, .string u21032.Ask.Text]) rfl ty70 0 rfl rfl rfl (oc rfl (oc rfl (oc rfl (oc rfl on)))) fun w hk hS => ⟨stM rfl hk etBox, ?_⟩)
                        refine wpE_one (i := 11) rfl (by kernel_rfl) rfl (k_store hS rfl rfl (us := [.bool u21038.Done, .string u21038.Value, .int .i64 u21038.Ask.Kind, .string u21038.Ask.Text]) rfl ty70 1 rfl rfl rfl (oc rfl (oc rfl (oc rfl (oc rfl on)))) fun w hk hS => ⟨stM rfl hk etBox, ?_⟩)
                        refine wpE_done (by kernel_rfl) ?_ _
                        try simp only [Exit.then, Exit.inBlock, ↓reduceIte, Nat.reduceEqDiff]
                        exact ⟨u21032.Done, u21032.Value, u21032.Ask.Kind, u21032.Ask.Text, u21038.Done, u21038.Value, u21038.Ask.Kind, u21038.Ask.Text, b21039, b21033, (hS.meet [2, 3, 5, 6, 7, 0, 1] (by decide) ⟨rfl, rfl, rfl, rfl, rfl, rfl, rfl, rfl, rfl, rfl, rfl, rfl, rfl, trivial⟩ ⟨rfl, rfl, rfl, rfl, rfl, rfl, rfl, trivial⟩ ⟨⟨2, rfl⟩, ⟨3, rfl⟩, ⟨5, rfl⟩, ⟨6, rfl⟩, ⟨7, rfl⟩, trivial⟩), hM⟩
                    · skip
                      have hz21040 := (hS.get 0 rfl : N21030 ≤ w.heap.size)
                      refine id (k_alloc hS ze70 rfl fun b21037 hnb21039 a w hk hS => ⟨stN (hk), ?_⟩)
                      refine wpE_upd 10 (.blk (some b21037)) _ (by kernel_rfl) (etNB (Nat.le_trans hz21040 hnb21039)) ?_
                      have hL := hS
                      replace hL := hL.freeze (R := R_RuleD) 2 rfl 2 rfl
                      replace hL := hL.freeze (R := Rep.str) 2 rfl 4 rfl
                      refine wpE_one (i := 3) rfl (by kernel_rfl) rfl (k_call hS ci37 rfl rfl (toy_Turn_c _ _ hL.dlt (hL.get 9 rfl) u9586.1 u20330 a20473 _ _ (hL.get 1 rfl) (hL.get 0 rfl) _ hu21032) fun _ w hR a hk hA => ⟨stN (hk), ?_⟩)
                      have he := Eq.symm hR
                      subst he
                      have hS := hA [] (fun r hr => by cases hr) List.Pairwise.nil
                      have hL := hS
                      replace hL := hL.freeze (R := R_RuleD) 2 rfl 2 rfl
                      replace hL := hL.freeze (R := Rep.str) 3 rfl 5 rfl
                      obtain ⟨u21042, hu21042, hM⟩ := bd hM
                      refine wpE_one (i := 7) rfl (by kernel_rfl) rfl (k_call hS ci37 rfl rfl (toy_Turn_c _ _ hL.dlt (hL.get 9 rfl) u9586.1 u20330 b20477 _ _ (hL.get 1 rfl) (hL.get 0 rfl) _ hu21042) fun _ w hR a hk hA => ⟨stN (hk), ?_⟩)
                      have he := Eq.symm hR
                      subst he
                      have hS := hA [] (fun r hr => by cases hr) List.Pairwise.nil
                      refine wpE_one (i := 10) rfl (by kernel_rfl) rfl (k_store hS rfl rfl (us := [.bool u21032.Done, .string u21032.Value, .int .i64 u21032.Ask.Kind, .string u21032.Ask.Text]) rfl ty70 0 rfl rfl rfl (oc rfl (oc rfl (oc rfl (oc rfl on)))) fun w hk hS => ⟨stM rfl hk etBox, ?_⟩)
                      refine wpE_one (i := 11) rfl (by kernel_rfl) rfl (k_store hS rfl rfl (us := [.bool u21042.Done, .string u21042.Value, .int .i64 u21042.Ask.Kind, .string u21042.Ask.Text]) rfl ty70 1 rfl rfl rfl (oc rfl (oc rfl (oc rfl (oc rfl on)))) fun w hk hS => ⟨stM rfl hk etBox, ?_⟩)
                      refine wpE_done (by kernel_rfl) ?_ _
                      try simp only [Exit.then, Exit.inBlock, ↓reduceIte, Nat.reduceEqDiff]
                      exact ⟨u21032.Done, u21032.Value, u21032.Ask.Kind, u21032.Ask.Text, u21042.Done, u21042.Value, u21042.Ask.Kind, u21042.Ask.Text, b21037, b21033, (hS.meet [2, 3, 5, 6, 7, 0, 1] (by decide) ⟨rfl, rfl, rfl, rfl, rfl, rfl, rfl, rfl, rfl, rfl, rfl, rfl, rfl, trivial⟩ ⟨rfl, rfl, rfl, rfl, rfl, rfl, rfl, trivial⟩ ⟨⟨2, rfl⟩, ⟨3, rfl⟩, ⟨5, rfl⟩, ⟨6, rfl⟩, ⟨7, rfl⟩, trivial⟩), hM⟩
                · rintro a w ⟨q20889, q20890, q20891, q20892, p20893, p20894, p20895, p20896, b20885, b20887, hS, hM⟩
                  unfold law24_ToyRings_j5 at hM
                  refine wp_seq_k fun K929 hK929 => ?_
                  refine draws [] hS mixed rfl (fun c a d v w h => by cases d <;> exact h) fun w hQ hS => ?_
                  refine dy 0 (v := .pointer (some ⟨b20885, 0 + 1, none⟩)) rfl (by kernel_rfl) (by kernel_rfl) (by kernel_rfl) rfl hQ hS (y_fld hS rfl fl70_1) rfl rfl rfl fun a hS => ?_
                  refine dy (l := []) 1 (v := .string q20890) rfl (by kernel_rfl) (by kernel_rfl) (by kernel_rfl) (by kernel_rfl) hQ hS (y_load hS rfl ty9 5 rfl eo_nil (us := [.string q20890]) rfl rfl (fun _ => rfl)) rfl rfl rfl fun a hS => ?_
                  refine dy 3 (v := .pointer (some ⟨b20887, 0 + 1, none⟩)) rfl (by kernel_rfl) (by kernel_rfl) (by kernel_rfl) rfl hQ hS (y_fld hS rfl fl70_1) rfl rfl rfl fun a hS => ?_
                  refine dy (l := []) 4 (v := .string p20894) rfl (by kernel_rfl) (by kernel_rfl) (by kernel_rfl) (by kernel_rfl) hQ hS (y_load hS rfl ty9 6 rfl eo_nil (us := [.string p20894]) rfl rfl (fun _ => rfl)) rfl rfl rfl fun a hS => ?_
                  obtain ⟨u20909, hu20909, hM⟩ := bd hM
                  refine wpE_one (i := 2) rfl (by kernel_rfl) rfl (k_call hS ci39 rfl rfl (toy_Value_c _ _ hS.dlt (hS.get 4 rfl) q20890 _ hu20909) fun _ w hR a hk hA => ⟨stN (hk), ?_⟩)
                  have he := Eq.symm hR
                  subst he
                  have hS := hA [] (fun r hr => by cases hr) List.Pairwise.nil
                  obtain ⟨u20911, hu20911, hM⟩ := bd hM
                  refine wpE_one (i := 5) rfl (by kernel_rfl) rfl (k_call hS ci39 rfl rfl (toy_Value_c _ _ hS.dlt (hS.get 4 rfl) p20894 _ hu20911) fun _ w hR a hk hA => ⟨stN (hk), ?_⟩)
                  have he := Eq.symm hR
                  subst he
                  have hS := hA [] (fun r hr => by cases hr) List.Pairwise.nil
                  refine dy 6 (v := .int .i64 u20909) rfl (by kernel_rfl) (by kernel_rfl) (by kernel_rfl) rfl hQ hS (y_assign hS rfl) rfl rfl rfl fun a hS => ?_
                  refine dy 7 (v := .int .i64 u20911) rfl (by kernel_rfl) (by kernel_rfl) (by kernel_rfl) rfl hQ hS (y_assign hS rfl) rfl rfl rfl fun a hS => ?_
                  refine wpE_done (by kernel_rfl) ?_ _
                  try simp only [Exit.then, Exit.inBlock, ↓reduceIte, Nat.reduceEqDiff]
                  refine hK929 _ _ ?_
                  refine wp_seq_k fun K930 hK930 => ?_
                  refine seq_j (J := fun a w => ∃ (g20937 : Bool), St W0 No T 167 [(1, .int .i64 more_), (2, .int .i64 at_2), (7, .pointer (some ⟨bz9584_2, 0, none⟩)), (8, vz9587_3), (9, .int .i64 g16741), (11, .pointer (some ⟨b20332, 0, none⟩)), (13, v20474), (20, .pointer (some ⟨b20885, 0, none⟩)), (32, vz9587_3), (33, .int .i64 (u9586.1.length : Int)), (34, .int .i64 g16741), (148, .bool g20937)] [.own vz9587_3 53 R_RuleD.size clz9587_4, .own v20474 9 Rep.str.size cl20475, .box bz9584_2 [v20482, .int .i64 g20483] 84, .box b20332 [.int .i64 u20330.Kind, .string u20330.Text] 28, .box b20885 [.bool q20889, .string q20890, .int .i64 q20891, .string q20892] 70] [RowsF R_RuleD clz9587_4 u9586.1, RowsF Rep.str cl20475 a20473, SlF (Rep.int .i64) v20482 g20481, LvF] a w ∧ law24_ToyRings_j4 at_2 u9586 g16741 u20330 a20473 g20481 g20483 q20889 q20890 q20891 q20892 g20937 = some f1) ?_ ?_
                  · skip
                    refine draws [] hS mixed rfl (fun c a d v w h => by cases d <;> exact h) fun w hQ hS => ?_
                    refine dy 0 (v := .pointer (some ⟨b20885, 0 + 0, none⟩)) rfl (by kernel_rfl) (by kernel_rfl) (by kernel_rfl) rfl hQ hS (y_fld hS rfl fl70_0) rfl rfl rfl fun a hS => ?_
                    refine dy (l := []) 1 (v := .bool q20889) rfl (by kernel_rfl) (by kernel_rfl) (by kernel_rfl) (by kernel_rfl) hQ hS (y_load hS rfl ty4 5 rfl eo_nil (us := [.bool q20889]) rfl rfl (fun _ => rfl)) rfl rfl rfl fun a hS => ?_
                    refine dy 2 (v := .bool (!(q20889))) rfl (by kernel_rfl) (by kernel_rfl) (by kernel_rfl) rfl hQ hS (y_not hS rfl) rfl rfl rfl fun a hS => ?_
                    refine dy 3 (v := .bool (!(q20889))) rfl (by kernel_rfl) (by kernel_rfl) (by kernel_rfl) rfl hQ hS (y_move hS rfl) rfl rfl rfl fun a hS => ?_
                    rcases bool2 (!(q20889)) with hb21013 | hb21013
                    · replace hM := ct hb21013 hM
                      refine dyn 4 rfl (by kernel_rfl) (by kernel_rfl) (by kernel_rfl) hQ hS rfl rfl rfl hb21013 rfl rfl fun a hS => ?_
                      refine dyn 5 rfl (by kernel_rfl) (by kernel_rfl) (by kernel_rfl) hQ hS rfl rfl rfl hb21013 rfl rfl fun a hS => ?_
                      refine dyn 6 rfl (by kernel_rfl) (by kernel_rfl) (by kernel_rfl) hQ hS rfl rfl rfl hb21013 rfl rfl fun a hS => ?_
                      refine dy 7 (v := .bool true) rfl (by kernel_rfl) (by kernel_rfl) (by kernel_rfl) rfl hQ hS (y_pickt hS rfl hb21013 rfl) rfl rfl rfl fun a hS => ?_
                      refine dy 8 (v := .bool true) rfl (by kernel_rfl) (by kernel_rfl) (by kernel_rfl) rfl hQ hS (y_move hS rfl) rfl rfl rfl fun a hS => ?_
                      refine dyn 9 rfl (by kernel_rfl) (by kernel_rfl) (by kernel_rfl) hQ hS rfl rfl rfl rfl rfl rfl fun a hS => ?_
                      refine dyn 10 rfl (by kernel_rfl) (by kernel_rfl) (by kernel_rfl) hQ hS rfl rfl rfl rfl rfl rfl fun a hS => ?_
                      refine dyn 11 rfl (by kernel_rfl) (by kernel_rfl) (by kernel_rfl) hQ hS rfl rfl rfl rfl rfl rfl fun a hS => ?_
                      refine dyn 12 rfl (by kernel_rfl) (by kernel_rfl) (by kernel_rfl) hQ hS rfl rfl rfl rfl rfl rfl fun a hS => ?_
                      refine dyn 13 rfl (by kernel_rfl) (by kernel_rfl) (by kernel_rfl) hQ hS rfl rfl rfl rfl rfl rfl fun a hS => ?_
                      refine dy 14 (v := .bool true) rfl (by kernel_rfl) (by kernel_rfl) (by kernel_rfl) rfl hQ hS (y_pickt hS rfl rfl rfl) rfl rfl rfl fun a hS => ?_
                      refine dy 15 (v := .bool true) rfl (by kernel_rfl) (by kernel_rfl) (by kernel_rfl) rfl hQ hS (y_move hS rfl) rfl rfl rfl fun a hS => ?_
                      refine dyn 16 rfl (by kernel_rfl) (by kernel_rfl) (by kernel_rfl) hQ hS rfl rfl rfl rfl rfl rfl fun a hS => ?_
                      refine dyn 17 rfl (by kernel_rfl) (by kernel_rfl) (by kernel_rfl) hQ hS rfl rfl rfl rfl rfl rfl fun a hS => ?_
                      refine dyn 18 rfl (by kernel_rfl) (by kernel_rfl) (by kernel_rfl) hQ hS rfl rfl rfl rfl rfl rfl fun a hS => ?_
                      refine dynu 19 rfl (by kernel_rfl) (by kernel_rfl) (by kernel_rfl) hQ hS rfl rfl rfl rfl rfl fun a hS => ?_
                      refine dynu 20 rfl (by kernel_rfl) (by kernel_rfl) (by kernel_rfl) hQ hS rfl rfl rfl rfl rfl fun a hS => ?_
                      refine dynu 21 rfl (by kernel_rfl) (by kernel_rfl) (by kernel_rfl) hQ hS rfl rfl rfl rfl rfl fun a hS => ?_
                      refine dynu 22 rfl (by kernel_rfl) (by kernel_rfl) (by kernel_rfl) hQ hS rfl rfl rfl rfl rfl fun a hS => ?_
                      refine dynu 23 rfl (by kernel_rfl) (by kernel_rfl) (by kernel_rfl) hQ hS rfl rfl rfl rfl rfl fun a hS => ?_
                      refine dyn 24 rfl (by kernel_rfl) (by kernel_rfl) (by kernel_rfl) hQ hS rfl rfl rfl rfl rfl rfl fun a hS => ?_
                      refine dy 25 (v := .bool true) rfl (by kernel_rfl) (by kernel_rfl) (by kernel_rfl) rfl hQ hS (y_pickt hS rfl rfl rfl) rfl rfl rfl fun a hS => ?_
                      refine wpE_done (by kernel_rfl) ?_ _
                      try simp only [Exit.then, Exit.inBlock, ↓reduceIte, Nat.reduceEqDiff]
                      exact ⟨true, (hS.meet [0, 1, 2, 4, 5] (by decide) ⟨rfl, rfl, rfl, rfl, rfl, rfl, rfl, rfl, rfl, rfl, rfl, rfl, trivial⟩ ⟨rfl, rfl, rfl, rfl, rfl, trivial⟩ ⟨⟨0, rfl⟩, ⟨1, rfl⟩, ⟨2, rfl⟩, ⟨4, rfl⟩, trivial⟩), hM⟩
                    · replace hM := cf hb21013 hM
                      refine dyg 4 (v := .pointer (some ⟨b20887, 0 + 0, none⟩)) rfl (by kernel_rfl) (by kernel_rfl) (by kernel_rfl) rfl hQ hS (y_fld hS rfl fl70_0) rfl rfl rfl hb21013 rfl rfl fun a hS => ?_
                      refine dyg (l := []) 5 (v := .bool p20893) rfl (by kernel_rfl) (by kernel_rfl) (by kernel_rfl) (by kernel_rfl) hQ hS (y_load hS rfl ty4 6 rfl eo_nil (us := [.bool p20893]) rfl rfl (fun _ => rfl)) rfl rfl rfl hb21013 rfl rfl fun a hS => ?_
                      refine dyg 6 (v := .bool (!(p20893))) rfl (by kernel_rfl) (by kernel_rfl) (by kernel_rfl) rfl hQ hS (y_not hS rfl) rfl rfl rfl hb21013 rfl rfl fun a hS => ?_
                      refine dy 7 (v := .bool (!(p20893))) rfl (by kernel_rfl) (by kernel_rfl) (by kernel_rfl) rfl hQ hS (y_pickf hS rfl hb21013 rfl) rfl rfl rfl fun a hS => ?_
                      refine dy 8 (v := .bool (!(p20893))) rfl (by kernel_rfl) (by kernel_rfl) (by kernel_rfl) rfl hQ hS (y_move hS rfl) rfl rfl rfl fun a hS => ?_
                      rcases bool2 (!(p20893)) with hb21014 | hb21014
                      · replace hM := ct hb21014 hM
                        refine dyn 9 rfl (by kernel_rfl) (by kernel_rfl) (by kernel_rfl) hQ hS rfl rfl rfl hb21014 rfl rfl fun a hS => ?_
                        refine dyn 10 rfl (by kernel_rfl) (by kernel_rfl) (by kernel_rfl) hQ hS rfl rfl rfl hb21014 rfl rfl fun a hS => ?_
                        refine dyn 11 rfl (by kernel_rfl) (by kernel_rfl) (by kernel_rfl) hQ hS rfl rfl rfl hb21014 rfl rfl fun a hS => ?_
                        refine dyn 12 rfl (by kernel_rfl) (by kernel_rfl) (by kernel_rfl) hQ hS rfl rfl rfl hb21014 rfl rfl fun a hS => ?_
                        refine dyn 13 rfl (by kernel_rfl) (by kernel_rfl) (by kernel_rfl) hQ hS rfl rfl rfl hb21014 rfl rfl fun a hS => ?_
                        refine dy 14 (v := .bool true) rfl (by kernel_rfl) (by kernel_rfl) (by kernel_rfl) rfl hQ hS (y_pickt hS rfl hb21014 rfl) rfl rfl rfl fun a hS => ?_
                        refine dy 15 (v := .bool true) rfl (by kernel_rfl) (by kernel_rfl) (by kernel_rfl) rfl hQ hS (y_move hS rfl) rfl rfl rfl fun a hS => ?_
                        refine dyn 16 rfl (by kernel_rfl) (by kernel_rfl) (by kernel_rfl) hQ hS rfl rfl rfl rfl rfl rfl fun a hS => ?_
                        refine dyn 17 rfl (by kernel_rfl) (by kernel_rfl) (by kernel_rfl) hQ hS rfl rfl rfl rfl rfl rfl fun a hS => ?_
                        refine dyn 18 rfl (by kernel_rfl) (by kernel_rfl) (by kernel_rfl) hQ hS rfl rfl rfl rfl rfl rfl fun a hS => ?_
                        refine dynu 19 rfl (by kernel_rfl) (by kernel_rfl) (by kernel_rfl) hQ hS rfl rfl rfl rfl rfl fun a hS => ?_
                        refine dynu 20 rfl (by kernel_rfl) (by kernel_rfl) (by kernel_rfl) hQ hS rfl rfl rfl rfl rfl fun a hS => ?_
                        refine dynu 21 rfl (by kernel_rfl) (by kernel_rfl) (by kernel_rfl) hQ hS rfl rfl rfl rfl rfl fun a hS => ?_
                        refine dynu 22 rfl (by kernel_rfl) (by kernel_rfl) (by kernel_rfl) hQ hS rfl rfl rfl rfl rfl fun a hS => ?_
                        refine dynu 23 rfl (by kernel_rfl) (by kernel_rfl) (by kernel_rfl) hQ hS rfl rfl rfl rfl rfl fun a hS => ?_
                        refine dyn 24 rfl (by kernel_rfl) (by kernel_rfl) (by kernel_rfl) hQ hS rfl rfl rfl rfl rfl rfl fun a hS => ?_
                        refine dy 25 (v := .bool true) rfl (by kernel_rfl) (by kernel_rfl) (by kernel_rfl) rfl hQ hS (y_pickt hS rfl rfl rfl) rfl rfl rfl fun a hS => ?_
                        refine wpE_done (by kernel_rfl) ?_ _
                        try simp only [Exit.then, Exit.inBlock, ↓reduceIte, Nat.reduceEqDiff]
                        exact ⟨true, (hS.meet [0, 1, 2, 4, 5] (by decide) ⟨rfl, rfl, rfl, rfl, rfl, rfl, rfl, rfl, rfl, rfl, rfl, rfl, trivial⟩ ⟨rfl, rfl, rfl, rfl, rfl, trivial⟩ ⟨⟨0, rfl⟩, ⟨1, rfl⟩, ⟨2, rfl⟩, ⟨4, rfl⟩, trivial⟩), hM⟩
                      · replace hM := cf hb21014 hM
                        refine dyg 9 (v := .int .i64 u20909) rfl (by kernel_rfl) (by kernel_rfl) (by kernel_rfl) rfl hQ hS (y_move hS rfl) rfl rfl rfl hb21014 rfl rfl fun a hS => ?_
                        refine dyg 11 (v := .pointer (some ⟨b20885, 0 + 1, none⟩)) rfl (by kernel_rfl) (by kernel_rfl) (by kernel_rfl) rfl hQ hS (y_fld hS rfl fl70_1) rfl rfl rfl hb21014 rfl rfl fun a hS => ?_
                        refine dyg (l := []) 12 (v := .string q20890) rfl (by kernel_rfl) (by kernel_rfl) (by kernel_rfl) (by kernel_rfl) hQ hS (y_load hS rfl ty9 5 rfl eo_nil (us := [.string q20890]) rfl rfl (fun _ => rfl)) rfl rfl rfl hb21014 rfl rfl fun a hS => ?_
                        obtain ⟨u21015, hu21015, hM⟩ := bd hM
                        refine wpE_oneg (i := 10) rfl (by kernel_rfl) hS rfl rfl rfl hb21014 (k_call hS ci36 rfl rfl (itoaM_c _ _ hS.dlt (hS.get 4 rfl) u20909 _ hu21015) fun _ w hR a hk hA => ⟨stN (hk), ?_⟩)
                        have he := Eq.symm hR
                        subst he
                        have hS := hA [] (fun r hr => by cases hr) List.Pairwise.nil
                        refine dyg 13 (v := .bool (!(u21015.toList == q20890.toList))) rfl (by kernel_rfl) (by kernel_rfl) (by kernel_rfl) rfl hQ hS (y_str hS rfl rfl rfl) rfl rfl rfl hb21014 rfl rfl fun a hS => ?_
                        refine dy 14 (v := .bool (!(u21015.toList == q20890.toList))) rfl (by kernel_rfl) (by kernel_rfl) (by kernel_rfl) rfl hQ hS (y_pickf hS rfl hb21014 rfl) rfl rfl rfl fun a hS => ?_
                        refine dy 15 (v := .bool (!(u21015.toList == q20890.toList))) rfl (by kernel_rfl) (by kernel_rfl) (by kernel_rfl) rfl hQ hS (y_move hS rfl) rfl rfl rfl fun a hS => ?_
                        rcases bool2 (!(u21015.toList == q20890.toList)) with hb21017 | hb21017
                        · replace hM := ct hb21017 hM
                          refine dyn 16 rfl (by kernel_rfl) (by kernel_rfl) (by kernel_rfl) hQ hS rfl rfl rfl hb21017 rfl rfl fun a hS => ?_
                          refine dyn 17 rfl (by kernel_rfl) (by kernel_rfl) (by kernel_rfl) hQ hS rfl rfl rfl hb21017 rfl rfl fun a hS => ?_
                          refine dyn 18 rfl (by kernel_rfl) (by kernel_rfl) (by kernel_rfl) hQ hS rfl rfl rfl hb21017 rfl rfl fun a hS => ?_
                          refine dynu 19 rfl (by kernel_rfl) (by kernel_rfl) (by kernel_rfl) hQ hS rfl rfl rfl rfl rfl fun a hS => ?_
                          refine dynu 20 rfl (by kernel_rfl) (by kernel_rfl) (by kernel_rfl) hQ hS rfl rfl rfl rfl rfl fun a hS => ?_
                          refine dynu 21 rfl (by kernel_rfl) (by kernel_rfl) (by kernel_rfl) hQ hS rfl rfl rfl rfl rfl fun a hS => ?_
                          refine dynu 22 rfl (by kernel_rfl) (by kernel_rfl) (by kernel_rfl) hQ hS rfl rfl rfl rfl rfl fun a hS => ?_
                          refine dynu 23 rfl (by kernel_rfl) (by kernel_rfl) (by kernel_rfl) hQ hS rfl rfl rfl rfl rfl fun a hS => ?_
                          refine dyn 24 rfl (by kernel_rfl) (by kernel_rfl) (by kernel_rfl) hQ hS rfl rfl rfl hb21017 rfl rfl fun a hS => ?_
                          refine dy 25 (v := .bool true) rfl (by kernel_rfl) (by kernel_rfl) (by kernel_rfl) rfl hQ hS (y_pickt hS rfl hb21017 rfl) rfl rfl rfl fun a hS => ?_
                          refine wpE_done (by kernel_rfl) ?_ _
                          try simp only [Exit.then, Exit.inBlock, ↓reduceIte, Nat.reduceEqDiff]
                          exact ⟨true, (hS.meet [0, 1, 2, 4, 5] (by decide) ⟨rfl, rfl, rfl, rfl, rfl, rfl, rfl, rfl, rfl, rfl, rfl, rfl, trivial⟩ ⟨rfl, rfl, rfl, rfl, rfl, trivial⟩ ⟨⟨0, rfl⟩, ⟨1, rfl⟩, ⟨2, rfl⟩, ⟨4, rfl⟩, trivial⟩), hM⟩
                        · replace hM := cf hb21017 hM
                          refine dyg 16 (v := .pointer (some ⟨b20327, 0 + 0, none⟩)) rfl (by kernel_rfl) (by kernel_rfl) (by kernel_rfl) rfl hQ hS (y_fld hS rfl fl53_0) rfl rfl rfl hb21017 rfl rfl fun a hS => ?_
                          refine dyg (l := []) 17 (v := .bool e20318.Ring) rfl (by kernel_rfl) (by kernel_rfl) (by kernel_rfl) (by kernel_rfl) hQ hS (y_load hS rfl ty4 3 rfl eo_nil (us := [.bool e20318.Ring]) rfl rfl (fun _ => rfl)) rfl rfl rfl hb21017 rfl rfl fun a hS => ?_
                          refine dyg 18 (v := .bool e20318.Ring) rfl (by kernel_rfl) (by kernel_rfl) (by kernel_rfl) rfl hQ hS (y_move hS rfl) rfl rfl rfl hb21017 rfl rfl fun a hS => ?_
                          rcases bool2 (e20318.Ring) with hb21018 | hb21018
                          · replace hM := ct hb21018 hM
                            refine dyg 19 (v := .int .i64 u20909) rfl (by kernel_rfl) (by kernel_rfl) (by kernel_rfl) rfl hQ hS (y_move hS rfl) rfl rfl rfl hb21018 rfl rfl fun a hS => ?_
                            refine dyg 20 (v := .int .i64 u20911) rfl (by kernel_rfl) (by kernel_rfl) (by kernel_rfl) rfl hQ hS (y_move hS rfl) rfl rfl rfl hb21018 rfl rfl fun a hS => ?_
                            refine dyg 21 (v := .int .i64 (ibit .and .i64 u20909 u20911)) rfl (by kernel_rfl) (by kernel_rfl) (by kernel_rfl) rfl hQ hS (y_bits hS rfl rfl rfl) rfl rfl rfl hb21018 rfl rfl fun a hS => ?_
                            refine dyg 22 (v := .int .i64 u20909) rfl (by kernel_rfl) (by kernel_rfl) (by kernel_rfl) rfl hQ hS (y_move hS rfl) rfl rfl rfl hb21018 rfl rfl fun a hS => ?_
                            refine dyg 23 (v := .bool ((ibit .and .i64 u20909 u20911 : Int) != u20909)) rfl (by kernel_rfl) (by kernel_rfl) (by kernel_rfl) rfl hQ hS (y_int hS rfl rfl rfl) rfl rfl rfl hb21018 rfl rfl fun a hS => ?_
                            refine dyg 24 (v := .bool ((ibit .and .i64 u20909 u20911 : Int) != u20909)) rfl (by kernel_rfl) (by kernel_rfl) (by kernel_rfl) rfl hQ hS (y_pickt hS rfl hb21018 rfl) rfl rfl rfl hb21017 rfl rfl fun a hS => ?_
                            refine dy 25 (v := .bool ((ibit .and .i64 u20909 u20911 : Int) != u20909)) rfl (by kernel_rfl) (by kernel_rfl) (by kernel_rfl) rfl hQ hS (y_pickf hS rfl hb21017 rfl) rfl rfl rfl fun a hS => ?_
                            refine wpE_done (by kernel_rfl) ?_ _
                            try simp only [Exit.then, Exit.inBlock, ↓reduceIte, Nat.reduceEqDiff]
                            exact ⟨((ibit .and .i64 u20909 u20911 : Int) != u20909), (hS.meet [0, 1, 2, 4, 5] (by decide) ⟨rfl, rfl, rfl, rfl, rfl, rfl, rfl, rfl, rfl, rfl, rfl, rfl, trivial⟩ ⟨rfl, rfl, rfl, rfl, rfl, trivial⟩ ⟨⟨0, rfl⟩, ⟨1, rfl⟩, ⟨2, rfl⟩, ⟨4, rfl⟩, trivial⟩), hM⟩
                          · replace hM := cf hb21018 hM
                            refine dyn 19 rfl (by kernel_rfl) (by kernel_rfl) (by kernel_rfl) hQ hS rfl rfl rfl hb21018 rfl rfl fun a hS => ?_
                            refine dyn 20 rfl (by kernel_rfl) (by kernel_rfl) (by kernel_rfl) hQ hS rfl rfl rfl hb21018 rfl rfl fun a hS => ?_
                            refine dyn 21 rfl (by kernel_rfl) (by kernel_rfl) (by kernel_rfl) hQ hS rfl rfl rfl hb21018 rfl rfl fun a hS => ?_
                            refine dyn 22 rfl (by kernel_rfl) (by kernel_rfl) (by kernel_rfl) hQ hS rfl rfl rfl hb21018 rfl rfl fun a hS => ?_
                            refine dyn 23 rfl (by kernel_rfl) (by kernel_rfl) (by kernel_rfl) hQ hS rfl rfl rfl hb21018 rfl rfl fun a hS => ?_
                            refine dyg 24 (v := .bool false) rfl (by kernel_rfl) (by kernel_rfl) (by kernel_rfl) rfl hQ hS (y_pickf hS rfl hb21018 rfl) rfl rfl rfl hb21017 rfl rfl fun a hS => ?_
                            refine dy 25 (v := .bool false) rfl (by kernel_rfl) (by kernel_rfl) (by kernel_rfl) rfl hQ hS (y_pickf hS rfl hb21017 rfl) rfl rfl rfl fun a hS => ?_
                            refine wpE_done (by kernel_rfl) ?_ _
                            try simp only [Exit.then, Exit.inBlock, ↓reduceIte, Nat.reduceEqDiff]
                            exact ⟨false, (hS.meet [0, 1, 2, 4, 5] (by decide) ⟨rfl, rfl, rfl, rfl, rfl, rfl, rfl, rfl, rfl, rfl, rfl, rfl, trivial⟩ ⟨rfl, rfl, rfl, rfl, rfl, trivial⟩ ⟨⟨0, rfl⟩, ⟨1, rfl⟩, ⟨2, rfl⟩, ⟨4, rfl⟩, trivial⟩), hM⟩
                  · rintro a w ⟨g20937, hS, hM⟩
                    unfold law24_ToyRings_j4 at hM
                    rcases bool2 (g20937) with hb20938 | hb20938
                    · replace hM := ct hb20938 hM
                      refine c_t hS rfl hb20938 ?_
                      refine wp_seq_k fun K931 hK931 => ?_
                      refine r_list ?_
                      refine wl rfl (ky (v := .bool false) hS (y_assign hS rfl) rfl rfl fun a hS => ?_)
                      refine wpList_nil ?_
                      try simp only [Exit.then, Exit.inBlock, ↓reduceIte, Nat.reduceEqDiff]
                      refine hK931 _ _ ?_
                      refine wp_ret ?_
                      injection hM with hM
                      subst hM
                      have hr := hf1 _ rfl
                      subst hr
                      replace hMo1 := el_out hMo1
                      have hM := hMo1
                      injection hM with hM
                      subst hM
                      try simp only [Exit.then, Exit.inBlock, ↓reduceIte, Nat.reduceEqDiff]
                      refine ret_ok hS Tryd.results9 (res_tmp hS rfl res_nil) ?_
                      exact rfl
                    · replace hM := cf hb20938 hM
                      refine c_f hS rfl hb20938 ?_
                      refine wp_skip ?_
                      try simp only [Exit.then, Exit.inBlock, ↓reduceIte, Nat.reduceEqDiff]
                      refine hK930 _ _ ?_
                      refine seq_j (J := fun a w => ∃ (g20983 : Bool), St W0 No T 167 [(1, .int .i64 more_), (2, .int .i64 at_2), (7, .pointer (some ⟨bz9584_2, 0, none⟩)), (8, vz9587_3), (32, vz9587_3), (33, .int .i64 (u9586.1.length : Int)), (34, .int .i64 g16741), (164, .bool g20983)] [.own vz9587_3 53 R_RuleD.size clz9587_4, .box bz9584_2 [v20482, .int .i64 g20483] 84] [RowsF R_RuleD clz9587_4 u9586.1, SlF (Rep.int .i64) v20482 g20481, LvF] a w ∧ law24_ToyRings_j3 g16741 g20481 g20483 g20983 = some f1) ?_ ?_
                      · skip
                        refine draws [(11, .blk (Value.ownBlock v20474))] hS mixed rfl (fun c a d v w h => by cases d <;> exact h) fun w hQ hS => ?_
                        refine dy 0 (v := .int .i64 g16741) rfl (by kernel_rfl) (by kernel_rfl) (by kernel_rfl) rfl hQ hS (y_move hS rfl) rfl rfl rfl fun a hS => ?_
                        refine dy 1 (v := .int .i64 at_2) rfl (by kernel_rfl) (by kernel_rfl) (by kernel_rfl) rfl hQ hS (y_move hS rfl) rfl rfl rfl fun a hS => ?_
                        refine dy 2 (v := vz9587_3) rfl (by kernel_rfl) (by kernel_rfl) (by kernel_rfl) rfl hQ hS (y_move hS rfl) rfl rfl rfl fun a hS => ?_
                        refine dy 3 (v := .int .i64 (u9586.1.length : Int)) rfl (by kernel_rfl) (by kernel_rfl) (by kernel_rfl) rfl hQ hS (y_leno (R := R_RuleD) (xs := u9586.1) hS sl49 rfl 0 rfl 0 rfl) rfl rfl rfl fun a hS => ?_
                        obtain ⟨u20996, hu20996, hM⟩ := bd hM
                        refine wpE_one (i := 4) rfl (by kernel_rfl) rfl (k_call hS ci18 rfl rfl (mill_Mod_c _ _ hS.dlt at_2 (u9586.1.length : Int) _ hu20996) fun _ w hR a hk hA => ⟨stN (hk), ?_⟩)
                        have he := Eq.symm hR
                        subst he
                        have hS := hA [] (fun r hr => by cases hr) List.Pairwise.nil
                        refine dy 5 (v := .bool ((g16741 : Int) == u20996)) rfl (by kernel_rfl) (by kernel_rfl) (by kernel_rfl) rfl hQ hS (y_int hS rfl rfl rfl) rfl rfl rfl fun a hS => ?_
                        refine dy 6 (v := .bool ((g16741 : Int) == u20996)) rfl (by kernel_rfl) (by kernel_rfl) (by kernel_rfl) rfl hQ hS (y_move hS rfl) rfl rfl rfl fun a hS => ?_
                        rcases bool2 ((g16741 : Int) == u20996) with hb20998 | hb20998
                        · replace hM := ct hb20998 hM
                          refine dyg 7 (v := vz9587_3) rfl (by kernel_rfl) (by kernel_rfl) (by kernel_rfl) rfl hQ hS (y_move hS rfl) rfl rfl rfl hb20998 rfl rfl fun a hS => ?_
                          refine dyg (l := [.blk (Value.ownBlock v20474)]) 8 (v := .agg #[.int .i64 u20330.Kind, .string u20330.Text]) rfl (by kernel_rfl) (by kernel_rfl) (by kernel_rfl) (by kernel_rfl) hQ hS (y_load hS rfl ty28 3 rfl (eo_ne hS 3 rfl rfl 1 rfl rfl (by decide) eo_nil) (us := [.int .i64 u20330.Kind, .string u20330.Text]) rfl rfl (fun h => by cases h)) rfl rfl rfl hb20998 rfl rfl fun a hS => ?_
                          refine dyg 9 (v := v20474) rfl (by kernel_rfl) (by kernel_rfl) (by kernel_rfl) rfl hQ hS (y_move hS rfl) rfl rfl rfl hb20998 rfl rfl fun a hS => ?_
                          refine dyg (l := [.blk (Value.ownBlock v20474)]) 13 (v := .agg #[.bool q20889, .string q20890, .int .i64 q20891, .string q20892]) rfl (by kernel_rfl) (by kernel_rfl) (by kernel_rfl) (by kernel_rfl) hQ hS (y_load hS rfl ty70 4 rfl (eo_ne hS 4 rfl rfl 1 rfl rfl (by decide) eo_nil) (us := [.bool q20889, .string q20890, .int .i64 q20891, .string q20892]) rfl rfl (fun h => by cases h)) rfl rfl rfl hb20998 rfl rfl fun a hS => ?_
                          refine wpE_oneg (i := 10) rfl (by kernel_rfl) hS rfl rfl rfl hb20998 (k_bslice (ps := [(0, .const (.string ⟨#[55, 55]⟩))]) hS el65 ze9 (zl := [.string (ByteArray.mk #[])]) (by kernel_rfl) rfl (us := [[.string (ByteArray.mk #[55, 55])]]) ⟨rfl, trivial⟩ (ws := [.string (ByteArray.mk #[55, 55])]) rfl rfl rfl rfl fun b20999 a w hk hS => ⟨stN (hk), ?_⟩)
                          replace hS := hS.lit (R := Rep.str) (us := [.string (ByteArray.mk #[55, 55])]) (xs := [(ByteArray.mk #[55, 55])]) 0 rfl (by decide) (RowsOk.one_ (R := Rep.str) (x := (ByteArray.mk #[55, 55])) rfl) rfl rfl
                          replace hS := hS.freeze (R := Rep.str) 0 rfl 0 rfl
                          obtain ⟨hg21001, hM⟩ := gd_some hM
                          refine wpE_oneg (i := 11) rfl (by kernel_rfl) hS rfl rfl rfl hb20998 (k_apps (R := Rep.str) (xs := a20473) (ys := [(ByteArray.mk #[55, 55])]) hS el65 (by decide) (by decide) rfl rfl 1 rfl 3 rfl 0 rfl hg21001 rfl fun v21002 cl21003 a w hk hS => ⟨stM rfl hk etOwn, ?_⟩)
                          have hL := hS
                          replace hL := hL.freeze (R := R_RuleD) 0 rfl 3 rfl
                          replace hL := hL.freeze (R := Rep.str) 0 rfl 1 rfl
                          obtain ⟨u21005, hu21005, hM⟩ := bd hM
                          refine wpE_oneg (i := 12) rfl (by kernel_rfl) hS rfl rfl rfl hb20998 (k_call hS ci37 rfl rfl (toy_Turn_c _ _ hL.dlt (hL.get 8 rfl) u9586.1 u20330 (a20473 ++ ([(ByteArray.mk #[55, 55])])) _ _ (hL.get 1 rfl) (hL.get 0 rfl) _ hu21005) fun _ w hR a hk hA => ⟨stN (hk), ?_⟩)
                          have he := Eq.symm hR
                          subst he
                          have hS := hA [] (fun r hr => by cases hr) List.Pairwise.nil
                          refine dyg 14 (v := .bool (!(u21005.Done == q20889 && u21005.Value.toList == q20890.toList && (u21005.Ask.Kind : Int) == q20891 && u21005.Ask.Text.toList == q20892.toList))) rfl (by kernel_rfl) (by kernel_rfl) (by kernel_rfl) rfl hQ hS (eq70n hS rfl rfl) rfl rfl rfl hb20998 rfl rfl fun a hS => ?_
                          refine dy 15 (v := .bool (!(u21005.Done == q20889 && u21005.Value.toList == q20890.toList && (u21005.Ask.Kind : Int) == q20891 && u21005.Ask.Text.toList == q20892.toList))) rfl (by kernel_rfl) (by kernel_rfl) (by kernel_rfl) rfl hQ hS (y_pickt hS rfl hb20998 rfl) rfl rfl rfl fun a hS => ?_
                          refine wpE_done (by kernel_rfl) ?_ _
                          try simp only [Exit.then, Exit.inBlock, ↓reduceIte, Nat.reduceEqDiff]
                          exact ⟨(!(u21005.Done == q20889 && u21005.Value.toList == q20890.toList && (u21005.Ask.Kind : Int) == q20891 && u21005.Ask.Text.toList == q20892.toList)), (hS.meet [0, 2] (by decide) ⟨rfl, rfl, rfl, rfl, rfl, rfl, rfl, rfl, trivial⟩ ⟨rfl, rfl, trivial⟩ ⟨⟨3, rfl⟩, ⟨5, rfl⟩, ⟨6, rfl⟩, trivial⟩), hM⟩
                        · replace hM := cf hb20998 hM
                          refine dyn 7 rfl (by kernel_rfl) (by kernel_rfl) (by kernel_rfl) hQ hS rfl rfl rfl hb20998 rfl rfl fun a hS => ?_
                          refine dyn 8 rfl (by kernel_rfl) (by kernel_rfl) (by kernel_rfl) hQ hS rfl rfl rfl hb20998 rfl rfl fun a hS => ?_
                          refine dyn 9 rfl (by kernel_rfl) (by kernel_rfl) (by kernel_rfl) hQ hS rfl rfl rfl hb20998 rfl rfl fun a hS => ?_
                          refine dyn 10 rfl (by kernel_rfl) (by kernel_rfl) (by kernel_rfl) hQ hS rfl rfl rfl hb20998 rfl rfl fun a hS => ?_
                          refine dyn 11 rfl (by kernel_rfl) (by kernel_rfl) (by kernel_rfl) hQ hS rfl rfl rfl hb20998 rfl rfl fun a hS => ?_
                          refine dyn 12 rfl (by kernel_rfl) (by kernel_rfl) (by kernel_rfl) hQ hS rfl rfl rfl hb20998 rfl rfl fun a hS => ?_
                          refine dyn 13 rfl (by kernel_rfl) (by kernel_rfl) (by kernel_rfl) hQ hS rfl rfl rfl hb20998 rfl rfl fun a hS => ?_
                          refine dyn 14 rfl (by kernel_rfl) (by kernel_rfl) (by kernel_rfl) hQ hS rfl rfl rfl hb20998 rfl rfl fun a hS => ?_
                          refine dy 15 (v := .bool false) rfl (by kernel_rfl) (by kernel_rfl) (by kernel_rfl) rfl hQ hS (y_pickf hS rfl hb20998 rfl) rfl rfl rfl fun a hS => ?_
                          refine wpE_done (by kernel_rfl) ?_ _
                          try simp only [Exit.then, Exit.inBlock, ↓reduceIte, Nat.reduceEqDiff]
                          exact ⟨false, (hS.meet [0, 2] (by decide) ⟨rfl, rfl, rfl, rfl, rfl, rfl, rfl, rfl, trivial⟩ ⟨rfl, rfl, trivial⟩ ⟨⟨0, rfl⟩, ⟨2, rfl⟩, ⟨3, rfl⟩, trivial⟩), hM⟩
                      · rintro a w ⟨g20983, hS, hM⟩
                        unfold law24_ToyRings_j3 at hM
                        rcases bool2 (g20983) with hb20984 | hb20984
                        · replace hM := ct hb20984 hM
                          refine c_t hS rfl hb20984 ?_
                          refine wp_seq_k fun K932 hK932 => ?_
                          refine r_list ?_
                          refine wl rfl (ky (v := .bool false) hS (y_assign hS rfl) rfl rfl fun a hS => ?_)
                          refine wpList_nil ?_
                          try simp only [Exit.then, Exit.inBlock, ↓reduceIte, Nat.reduceEqDiff]
                          refine hK932 _ _ ?_
                          refine wp_ret ?_
                          injection hM with hM
                          subst hM
                          have hr := hf1 _ rfl
                          subst hr
                          replace hMo1 := el_out hMo1
                          have hM := hMo1
                          injection hM with hM
                          subst hM
                          try simp only [Exit.then, Exit.inBlock, ↓reduceIte, Nat.reduceEqDiff]
                          refine ret_ok hS Tryd.results9 (res_tmp hS rfl res_nil) ?_
                          exact rfl
                        · replace hM := cf hb20984 hM
                          refine c_f hS rfl hb20984 ?_
                          refine wp_skip ?_
                          try simp only [Exit.then, Exit.inBlock, ↓reduceIte, Nat.reduceEqDiff]
                          exact ⟨g20481, g20483, v20482, (hS.meet [0, 1] (by decide) ⟨rfl, rfl, rfl, rfl, rfl, rfl, rfl, trivial⟩ ⟨rfl, rfl, trivial⟩ ⟨⟨0, rfl⟩, ⟨1, rfl⟩, ⟨2, rfl⟩, trivial⟩), hM⟩
        · rintro a w ⟨g20315, g20317, v20316, hS, hM⟩
          unfold law24_ToyRings_j2 at hM
          refine r_list ?_
          refine wl rfl (ky (v := .int .i64 (IntKind.i64.wrap (g16741 + 1))) hS (y_int hS rfl rfl rfl) rfl rfl fun a hS => ?_)
          refine wl rfl (ky (v := .int .i64 (IntKind.i64.wrap (g16741 + 1))) hS (y_move hS rfl) rfl rfl fun a hS => ?_)
          refine wpList_nil ?_
          try simp only [Exit.then, Exit.inBlock, ↓reduceIte, Nat.reduceEqDiff]
          exact ⟨(IntKind.i64.wrap (g16741 + 1), g20315, g20317), (Option.some.inj hM).symm, (IntKind.i64.wrap (g16741 + 1)), g20315, g20317, v20316, rfl, (hS.meet [0, 1] (by decide) ⟨rfl, rfl, rfl, rfl, rfl, rfl, rfl, trivial⟩ ⟨rfl, rfl, trivial⟩ ⟨⟨0, rfl⟩, ⟨1, rfl⟩, ⟨2, rfl⟩, trivial⟩)⟩
      · replace hM := cf hb19127 hM
        refine c_f hS rfl hb19127 ?_
        refine wp_exit ?_
        try simp only [Exit.then, Exit.inBlock, ↓reduceIte, Nat.reduceEqDiff]
        injection hM with hM
        subst hM
        have hr := hf1 _ rfl
        subst hr
        replace hMo1 := el_go hMo1
        have hM : law24_ToyRings_j1 = some y := hMo1
        exact ⟨(hS.meet [] (by decide) trivial trivial ⟨⟨2, rfl⟩, trivial⟩), hM⟩
    · rintro a w ⟨hS, hM⟩
      unfold law24_ToyRings_j1 at hM
      refine wp_seq_k fun K641 hK641 => ?_
      refine r_list ?_
      obtain ⟨u14357, hu14357, hM⟩ := bd hM
      refine wl rfl (k_call hS ci27 rfl rfl (law24_awake_c _ _ hS.dlt (hS.get 0 rfl) _ hu14357) fun _ w hR a hk hA => ?_)
      have he := Eq.symm hR
      subst he
      have hS := hA [] (fun r hr => by cases hr) List.Pairwise.nil
      refine wl rfl (ky (v := .bool u14357) hS (y_assign hS rfl) rfl rfl fun a hS => ?_)
      refine wpList_nil ?_
      try simp only [Exit.then, Exit.inBlock, ↓reduceIte, Nat.reduceEqDiff]
      refine hK641 _ _ ?_
      refine wp_ret ?_
      injection hM with hM
      subst hM
      try simp only [Exit.then, Exit.inBlock, ↓reduceIte, Nat.reduceEqDiff]
      refine ret_ok hS Tryd.results9 (res_tmp hS rfl res_nil) ?_
      exact rfl
end Go.Proofs.YtappkgmbdoiocaaDoor
