/- What functions of the program compute; that they do. -/
import Derived.Test.YtdappapdddnciaaDoorMT
import Derived.Test.YtdappapdddnciaaDoorQ2
import Derived.Test.YtdappapdddnciaaDoorD1
import Derived.Test.YtdappapdddnciaaDoorE2
set_option linter.unusedVariables false
set_option linter.unusedSimpArgs false
namespace Go.Proofs.YtdappapdddnciaaDoor
open Go.RowKit
noncomputable def law29_GroupCycles_j1 : Option Bool := (law29_awake).bind fun u32220 => some (u32220)
noncomputable def law29_GroupCycles_j2 (g32870 : Int) : Option (Fl (Int) (Fl (Unit) Bool)) := some (.go (IntKind.i64.wrap (g32870 + 1)))
noncomputable def law29_GroupCycles_j3 (g34015 : Int) (g34275 : Bool) : Option (Fl (Int) (Fl (Unit) Bool)) := cond g34275 (some (.out (.out false))) (some (.go (IntKind.i64.wrap (g34015 + 1))))
noncomputable def law29_GroupCycles_l4 (u21481 : ((List RecordD) × DiceD)) (way30918 : (List (List Bool))) (g32870 : Int) (u33858 : (List KeyD)) (g34015 : Int) : Option (Fl (Int) (Fl (Unit) Bool)) := cond (decide ((g34015 : Int) < (u21481.1.length : Int))) ((getI u21481.1 g34015).bind fun e34171 => (ref23_Has u33858 e34171.Key).bind fun u34277 => cond ((g32870 : Int) == g34015) (law29_GroupCycles_j3 g34015 (u34277 != true)) ((getI way30918 g32870).bind fun e34281 => (getI e34281 g34015).bind fun e34292 => cond e34292 ((getI way30918 g34015).bind fun e34303 => (getI e34303 g32870).bind fun e34314 => law29_GroupCycles_j3 g34015 (u34277 != e34314)) (law29_GroupCycles_j3 g34015 (u34277 != false)))) (some (.out (.go ())))
noncomputable def law29_GroupCycles_l5 (u21481 : ((List RecordD) × DiceD)) (way30918 : (List (List Bool))) (g32870 : Int) : Option (Fl (Int) (Fl (Unit) Bool)) := cond (decide ((g32870 : Int) < (u21481.1.length : Int))) ((getI u21481.1 g32870).bind fun e33846 => (group_Of u21481.1 2 e33846.Key).bind fun u33858 => (loop (fun s : Int => law29_GroupCycles_l4 u21481 way30918 g32870 u33858 s) 0).bind fun r => Fl.el r (fun s => law29_GroupCycles_j2 g32870) (fun y => some (.out (.out y)))) (some (.out (.go ())))
noncomputable def law29_GroupCycles_j6 (u21481 : ((List RecordD) × DiceD)) (way30918 : (List (List Bool))) : Option Bool := (loop (fun s : Int => law29_GroupCycles_l5 u21481 way30918 s) 0).bind fun r => Fl.el r (fun s => law29_GroupCycles_j1) (fun y => some (y))
noncomputable def law29_GroupCycles_j7 (g38220 : Int) (way44068 : (List (List Bool))) : Option (Fl ((List (List Bool)) × Int) ((List (List Bool)))) := some (.go (way44068, IntKind.i64.wrap (g38220 + 1)))
noncomputable def law29_GroupCycles_j8 (g45044 : Int) (way46500 : (List (List Bool))) : Option (Fl ((List (List Bool)) × Int) ((List (List Bool)))) := some (.go (way46500, IntKind.i64.wrap (g45044 + 1)))
noncomputable def law29_GroupCycles_l9 (u21481 : ((List RecordD) × DiceD)) (g38220 : Int) (g45044 : Int) (way46742 : (List (List Bool))) (g46745 : Int) : Option (Fl ((List (List Bool)) × Int) ((List (List Bool)))) := cond (decide ((g46745 : Int) < (u21481.1.length : Int))) ((getI way46742 g45044).bind fun e47104 => (getI way46742 g45044).bind fun e47117 => (getI e47117 g46745).bind fun e47129 => cond e47129 ((getI e47104 g46745).bind fun e47139 => some (.go ((way46742.set (Int.toNat g45044) (e47104.set (Int.toNat g46745) true)), IntKind.i64.wrap (g46745 + 1)))) ((getI way46742 g45044).bind fun e47152 => (getI e47152 g38220).bind fun e47164 => cond e47164 ((getI way46742 g38220).bind fun e47175 => (getI e47175 g46745).bind fun e47187 => (getI e47104 g46745).bind fun e47196 => some (.go ((way46742.set (Int.toNat g45044) (e47104.set (Int.toNat g46745) e47187)), IntKind.i64.wrap (g46745 + 1)))) ((getI e47104 g46745).bind fun e47208 => some (.go ((way46742.set (Int.toNat g45044) (e47104.set (Int.toNat g46745) false)), IntKind.i64.wrap (g46745 + 1)))))) (some (.out way46742))
noncomputable def law29_GroupCycles_l10 (u21481 : ((List RecordD) × DiceD)) (g38220 : Int) (way45041 : (List (List Bool))) (g45044 : Int) : Option (Fl ((List (List Bool)) × Int) ((List (List Bool)))) := cond (decide ((g45044 : Int) < (u21481.1.length : Int))) ((loop (fun s : (List (List Bool)) × Int => law29_GroupCycles_l9 u21481 g38220 g45044 s.1 s.2) (way45041, 0)).bind fun r => law29_GroupCycles_j8 g45044 r) (some (.out way45041))
noncomputable def law29_GroupCycles_l11 (u21481 : ((List RecordD) × DiceD)) (way38217 : (List (List Bool))) (g38220 : Int) : Option (Fl ((List (List Bool)) × Int) ((List (List Bool)))) := cond (decide ((g38220 : Int) < (u21481.1.length : Int))) ((loop (fun s : (List (List Bool)) × Int => law29_GroupCycles_l10 u21481 g38220 s.1 s.2) (way38217, 0)).bind fun r => law29_GroupCycles_j7 g38220 r) (some (.out way38217))
noncomputable def law29_GroupCycles_j12 (u21481 : ((List RecordD) × DiceD)) (way23117 : (List (List Bool))) : Option Bool := (loop (fun s : (List (List Bool)) × Int => law29_GroupCycles_l11 u21481 s.1 s.2) (way23117, 0)).bind fun r => law29_GroupCycles_j6 u21481 r
noncomputable def law29_GroupCycles_j13 (g47897 : Int) (way48909 : (List (List Bool))) : Option (Fl ((List (List Bool)) × Int) ((List (List Bool)))) := some (.go (way48909, IntKind.i64.wrap (g47897 + 1)))
noncomputable def law29_GroupCycles_l14 (u21481 : ((List RecordD) × DiceD)) (open21761 : (List Bool)) (g47897 : Int) (e48912 : RecordD) (way49083 : (List (List Bool))) (g49086 : Int) : Option (Fl ((List (List Bool)) × Int) ((List (List Bool)))) := cond (decide ((g49086 : Int) < (u21481.1.length : Int))) ((getI u21481.1 g49086).bind fun e49247 => (getI way49083 g47897).bind fun e49331 => (getI open21761 g47897).bind fun e49343 => cond e49343 ((getI open21761 g49086).bind fun e49353 => cond e49353 ((ref23_Has e48912.Reads e49247.Key).bind fun u49363 => (getI e49331 g49086).bind fun e49365 => some (.go ((way49083.set (Int.toNat g47897) (e49331.set (Int.toNat g49086) u49363)), IntKind.i64.wrap (g49086 + 1)))) ((getI e49331 g49086).bind fun e49377 => some (.go ((way49083.set (Int.toNat g47897) (e49331.set (Int.toNat g49086) false)), IntKind.i64.wrap (g49086 + 1))))) ((getI e49331 g49086).bind fun e49389 => some (.go ((way49083.set (Int.toNat g47897) (e49331.set (Int.toNat g49086) false)), IntKind.i64.wrap (g49086 + 1))))) (some (.out way49083))
noncomputable def law29_GroupCycles_l15 (u21481 : ((List RecordD) × DiceD)) (open21761 : (List Bool)) (way47894 : (List (List Bool))) (g47897 : Int) : Option (Fl ((List (List Bool)) × Int) ((List (List Bool)))) := cond (decide ((g47897 : Int) < (u21481.1.length : Int))) ((getI u21481.1 g47897).bind fun e48912 => (loop (fun s : (List (List Bool)) × Int => law29_GroupCycles_l14 u21481 open21761 g47897 e48912 s.1 s.2) (way47894, 0)).bind fun r => law29_GroupCycles_j13 g47897 r) (some (.out way47894))
noncomputable def law29_GroupCycles_j16 (u21481 : ((List RecordD) × DiceD)) (way21758 : (List (List Bool))) (open21761 : (List Bool)) : Option Bool := (loop (fun s : (List (List Bool)) × Int => law29_GroupCycles_l15 u21481 open21761 s.1 s.2) (way21758, 0)).bind fun r => law29_GroupCycles_j12 u21481 r
noncomputable def law29_GroupCycles_j17 (u21481 : ((List RecordD) × DiceD)) (way49529 : (List (List Bool))) (g49534 : Int) (open49734 : (List Bool)) : Option (Fl ((List (List Bool)) × (List Bool) × Int) ((List (List Bool)) × (List Bool))) := gd (decide (0 ≤ (u21481.1.length : Int))) <| gd (roomB (Int.toNat (u21481.1.length : Int))) <| (getI way49529 g49534).bind fun e49742 => some (.go ((way49529.set (Int.toNat g49534) (List.replicate (Int.toNat (u21481.1.length : Int)) false)), open49734, IntKind.i64.wrap (g49534 + 1)))
noncomputable def law29_GroupCycles_l18 (u21481 : ((List RecordD) × DiceD)) (way49529 : (List (List Bool))) (open49532 : (List Bool)) (g49534 : Int) : Option (Fl ((List (List Bool)) × (List Bool) × Int) ((List (List Bool)) × (List Bool))) := cond (decide ((g49534 : Int) < (u21481.1.length : Int))) ((getI u21481.1 g49534).bind fun e49664 => cond ((e49664.Key.Kind : Int) == 32) (cond (decide ((e49664.Verified : Int) < 2)) ((getI open49532 g49534).bind fun e49758 => law29_GroupCycles_j17 u21481 way49529 g49534 (open49532.set (Int.toNat g49534) (!(e49664.Dirty)))) ((getI open49532 g49534).bind fun e49767 => law29_GroupCycles_j17 u21481 way49529 g49534 (open49532.set (Int.toNat g49534) false))) ((getI open49532 g49534).bind fun e49776 => law29_GroupCycles_j17 u21481 way49529 g49534 (open49532.set (Int.toNat g49534) false))) (some (.out (way49529, open49532)))
noncomputable def law29_GroupCycles (t_0 : (List Int)) : Option Bool := (mill_Light t_0).bind fun u21473 => cond (!(u21473)) ((law29_awake).bind fun u21476 => some (u21476)) ((mill_Roll t_0).bind fun u21478 => (law29_records u21478).bind fun u21481 => gd (decide (0 ≤ (u21481.1.length : Int))) <| gd (roomB (Int.toNat (u21481.1.length : Int))) <| gd (decide (0 ≤ (u21481.1.length : Int))) <| gd (roomB (Int.toNat (u21481.1.length : Int))) <| (loop (fun s : (List (List Bool)) × (List Bool) × Int => law29_GroupCycles_l18 u21481 s.1 s.2.1 s.2.2) ((List.replicate (Int.toNat (u21481.1.length : Int)) ([] : List Bool)), (List.replicate (Int.toNat (u21481.1.length : Int)) false), 0)).bind fun r => law29_GroupCycles_j16 u21481 r.1 r.2)
set_option maxRecDepth 100000 in
set_option maxHeartbeats 4000000 in
theorem law29_GroupCycles_c (T : Nat → Prop) (W0 : World) (hT : ∀ k, T k → k < W0.heap.size) (hLv : LvP T W0) (t_0 : (List Int)) (v1 : Value) (hv1 : SlR (Rep.int .i64) T W0 v1 t_0) (y : Bool) (hM : law29_GroupCycles t_0 = some y) : Rets Tryd.prog No 5 [v1] W0 (fun v w' => v = .bool y) := by
  refine enter (c := _) Tryd.func5 rfl T 196 Tryd.ntmps5 hT rfl fun a hS => ?_
  replace hS := hS.fact LvF (LvP.dn hLv)
  replace hS := hS.fact (SlF (Rep.int .i64) v1 t_0) (SlR.dn hv1)
  unfold law29_GroupCycles at hM
  refine wp_seq_k fun K610 hK610 => ?_
  refine r_list ?_
  refine wl rfl (ky (v := .bool false) hS (y_assign hS rfl) rfl rfl fun a hS => ?_)
  refine wpList_nil ?_
  try simp only [Exit.then, Exit.inBlock, ↓reduceIte, Nat.reduceEqDiff]
  refine hK610 _ _ ?_
  refine wp_seq_k fun K611 hK611 => ?_
  refine wp_seq_k fun K612 hK612 => ?_
  refine r_list ?_
  refine wl rfl (ky (v := v1) hS (y_move hS rfl) rfl rfl fun a hS => ?_)
  obtain ⟨u21473, hu21473, hM⟩ := bd hM
  refine wl rfl (k_call hS ci7 rfl rfl (mill_Light_c _ _ hS.dlt t_0 _ (hS.get 0 rfl) _ hu21473) fun _ w hR a hk hA => ?_)
  have he := Eq.symm hR
  subst he
  have hS := hA [] (fun r hr => by cases hr) List.Pairwise.nil
  refine wl rfl (ky (v := .bool (!(u21473))) hS (y_not hS rfl) rfl rfl fun a hS => ?_)
  refine wpList_nil ?_
  try simp only [Exit.then, Exit.inBlock, ↓reduceIte, Nat.reduceEqDiff]
  refine hK612 _ _ ?_
  rcases bool2 (!(u21473)) with hb21475 | hb21475
  · replace hM := ct hb21475 hM
    refine c_t hS rfl hb21475 ?_
    refine wp_seq_k fun K613 hK613 => ?_
    refine r_list ?_
    obtain ⟨u21476, hu21476, hM⟩ := bd hM
    refine wl rfl (k_call hS ci8 rfl rfl (law29_awake_c _ _ hS.dlt (hS.get 1 rfl) _ hu21476) fun _ w hR a hk hA => ?_)
    have he := Eq.symm hR
    subst he
    have hS := hA [] (fun r hr => by cases hr) List.Pairwise.nil
    refine wl rfl (ky (v := .bool u21476) hS (y_assign hS rfl) rfl rfl fun a hS => ?_)
    refine wpList_nil ?_
    try simp only [Exit.then, Exit.inBlock, ↓reduceIte, Nat.reduceEqDiff]
    refine hK613 _ _ ?_
    refine wp_ret ?_
    injection hM with hM
    subst hM
    try simp only [Exit.then, Exit.inBlock, ↓reduceIte, Nat.reduceEqDiff]
    refine ret_ok hS Tryd.results5 (res_tmp hS rfl res_nil) ?_
    exact rfl
  · replace hM := cf hb21475 hM
    refine c_f hS rfl hb21475 ?_
    refine wp_skip ?_
    try simp only [Exit.then, Exit.inBlock, ↓reduceIte, Nat.reduceEqDiff]
    refine hK611 _ _ ?_
    refine wp_seq_k fun K614 hK614 => ?_
    refine r_list ?_
    refine wl rfl (ky (v := v1) hS (y_move hS rfl) rfl rfl fun a hS => ?_)
    obtain ⟨u21478, hu21478, hM⟩ := bd hM
    refine wl rfl (k_call hS ci9 rfl rfl (mill_Roll_c _ _ hS.dlt t_0 _ (hS.get 0 rfl) _ hu21478) fun _ w hR a hk hA => ?_)
    obtain ⟨bz21479_2, vz21479_3, he, hFbz21479_2, hObz21479_2, hRvz21479_3⟩ := hR
    replace he := he.symm
    subst he
    have hS := hA [.box bz21479_2 [vz21479_3, .int .i64 u21478.At] 52] (adds1 hObz21479_2 (fun k hk => by simp only [Res.dom, Option.some.injEq] at hk; omega)) (pw1 _)
    replace hS := hS.fact (SlF (Rep.int .i64) vz21479_3 u21478.L) (hRvz21479_3.sub (dT_dT _))
    obtain ⟨u21481, hu21481, hM⟩ := bd hM
    refine wl rfl (k_callmr hS ci10 rfl rfl 0 rfl (law29_records_c _ _ (hS.drop 0).dlt u21478 _ _ (hS.boxRow 0 rfl) (hS.notin 0 rfl) (SlR.lent (i := 0) rfl (hS.get 0 rfl)) (LvF.keep (hS.get 2 rfl) (Kt.refl _ _) (fun k hk => .inl ((dT_in (i := 0) rfl k).1 hk))) _ hu21481) fun _ w hR hk => ?_)
    obtain ⟨vz21482_3, clz21482_4, vz21482_5, he, ⟨hOvz21482_3, hFvz21482_3, hRvz21482_3⟩, hrow, hRvz21482_5⟩ := hR
    replace he := he.symm
    subst he
    refine ⟨[vz21482_5, .int .i64 u21481.2.At], [.own vz21482_3 34 R_RecordD.size clz21482_4], hrow, adds1 ⟨hOvz21482_3, by decide⟩ hFvz21482_3, pw1 _, fun a hS => ?_⟩
    replace hS := hS.fact (RowsF R_RecordD clz21482_4 u21481.1) (hRvz21482_3.keep (Kt.refl _ _) (Nw.back2 (i := 0) rfl [.own vz21482_3 34 R_RecordD.size clz21482_4] _))
    replace hS := hS.fact (SlF (Rep.int .i64) vz21482_5 u21481.2.L) (hRvz21482_5.sub (Nw.back2 (i := 0) rfl [.own vz21482_3 34 R_RecordD.size clz21482_4] _))
    refine wl rfl (ky (v := vz21482_3) hS (y_assign hS rfl) rfl rfl fun a hS => ?_)
    refine wpList_nil ?_
    try simp only [Exit.then, Exit.inBlock, ↓reduceIte, Nat.reduceEqDiff]
    refine hK614 _ _ ?_
    refine wp_seq_k fun K615 hK615 => ?_
    refine r_list ?_
    refine wl rfl (ky (v := vz21482_3) hS (y_move hS rfl) rfl rfl fun a hS => ?_)
    refine wl rfl (ky (v := .int .i64 (u21481.1.length : Int)) hS (y_leno (R := R_RecordD) (xs := u21481.1) hS sl28 rfl 0 rfl 1 rfl) rfl rfl fun a hS => ?_)
    refine wl rfl (ky (v := .int .i64 (u21481.1.length : Int)) hS (y_assign hS rfl) rfl rfl fun a hS => ?_)
    refine wpList_nil ?_
    try simp only [Exit.then, Exit.inBlock, ↓reduceIte, Nat.reduceEqDiff]
    refine hK615 _ _ ?_
    refine wp_seq_k fun K616 hK616 => ?_
    refine r_list ?_
    refine wl rfl (ky (v := .int .i64 (u21481.1.length : Int)) hS (y_move hS rfl) rfl rfl fun a hS => ?_)
    obtain ⟨hg21484, hM⟩ := gd_some hM
    obtain ⟨hg21485, hM⟩ := gd_some hM
    refine wl rfl (k_make (R := R_L4N) (z0 := nst_L4.nf (.slice none 0 0) ([] : List Bool)) hS el47 ze48 (by decide) rfl rfl hg21484 hg21485 ⟨rfl, rfl⟩ rfl fun v21486 cl21487 a w hk hS => ?_)
    obtain ⟨in21490, hS⟩ := St.madeN (N := nst_L4) (z := ([] : List Bool)) hS rfl
    replace hS := (show St W0 No T 196 _ [.own v21486 48 R_L4N.size cl21487, .grp in21490, .own vz21482_3 34 R_RecordD.size clz21482_4, .box bz21479_2 [vz21482_5, .int .i64 u21481.2.At] 52] (RowsF R_L4N cl21487 (nzip nst_L4 in21490 (List.replicate (Int.toNat (u21481.1.length : Int)) ([] : List Bool))) :: InnF nst_L4 in21490 (List.replicate (Int.toNat (u21481.1.length : Int)) ([] : List Bool)) :: _) _ _ from hS)
    refine wl rfl (ky (v := v21486) hS (y_assign hS rfl) rfl rfl fun a hS => ?_)
    refine wpList_nil ?_
    try simp only [Exit.then, Exit.inBlock, ↓reduceIte, Nat.reduceEqDiff]
    refine hK616 _ _ ?_
    refine wp_seq_k fun K617 hK617 => ?_
    refine r_list ?_
    refine wl rfl (ky (v := .int .i64 (u21481.1.length : Int)) hS (y_move hS rfl) rfl rfl fun a hS => ?_)
    obtain ⟨hg21491, hM⟩ := gd_some hM
    obtain ⟨hg21492, hM⟩ := gd_some hM
    refine wl rfl (k_make (R := Rep.bool) (z0 := false) hS el48 ze4 (by decide) rfl rfl hg21491 hg21492 rfl rfl fun v21493 cl21494 a w hk hS => ?_)
    refine wl rfl (ky (v := v21493) hS (y_assign hS rfl) rfl rfl fun a hS => ?_)
    refine wpList_nil ?_
    try simp only [Exit.then, Exit.inBlock, ↓reduceIte, Nat.reduceEqDiff]
    refine hK617 _ _ ?_
    refine seq_j (J := fun a w => ∃ (way21758 : (List (List Bool))) (open21761 : (List Bool)) (cl21759 : (List Value)) (in21760 : (List OwnT)) (cl21762 : (List Value)), St W0 No T 196 [(3, vz21482_3), (4, .int .i64 (u21481.1.length : Int)), (5, v21486), (6, v21493)] [.own vz21482_3 34 R_RecordD.size clz21482_4, .own v21486 48 R_L4N.size cl21759, .grp in21760, .own v21493 4 Rep.bool.size cl21762] [RowsF R_RecordD clz21482_4 u21481.1, RowsF R_L4N cl21759 (nzip nst_L4 in21760 way21758), InnF nst_L4 in21760 way21758, RowsF Rep.bool cl21762 open21761, LvF] a w ∧ law29_GroupCycles_j16 u21481 way21758 open21761 = some y) ?_ ?_
    · skip
      refine wp_seq_k fun K1389 hK1389 => ?_
      refine r_list ?_
      refine wl rfl (ky (v := vz21482_3) hS (y_move hS rfl) rfl rfl fun a hS => ?_)
      refine wl rfl (ky (v := .int .i64 (u21481.1.length : Int)) hS (y_leno (R := R_RecordD) (xs := u21481.1) hS sl28 rfl 3 rfl 4 rfl) rfl rfl fun a hS => ?_)
      refine wl rfl (ky (v := .int .i64 0) hS (y_move hS rfl) rfl rfl fun a hS => ?_)
      refine wpList_nil ?_
      try simp only [Exit.then, Exit.inBlock, ↓reduceIte, Nat.reduceEqDiff]
      refine hK1389 _ _ ?_
      refine wp_block ?_
      obtain ⟨r1, hl1, hMo1⟩ := bd hM
      refine wp_lp (fun s : (List (List Bool)) × (List Bool) × Int => law29_GroupCycles_l18 u21481 s.1 s.2.1 s.2.2) (fun s a w => ∃ (way49529 : (List (List Bool))) (open49532 : (List Bool)) (g49534 : Int) (cl49530 : (List Value)) (in49531 : (List OwnT)) (cl49533 : (List Value)), (way49529, open49532, g49534) = s ∧ St W0 No T 196 [(3, vz21482_3), (4, .int .i64 (u21481.1.length : Int)), (5, v21486), (6, v21493), (34, vz21482_3), (35, .int .i64 (u21481.1.length : Int)), (36, .int .i64 g49534)] [.own vz21482_3 34 R_RecordD.size clz21482_4, .own v21486 48 R_L4N.size cl49530, .grp in49531, .own v21493 4 Rep.bool.size cl49533] [RowsF R_RecordD clz21482_4 u21481.1, RowsF R_L4N cl49530 (nzip nst_L4 in49531 way49529), InnF nst_L4 in49531 way49529, RowsF Rep.bool cl49533 open49532, LvF] a w) hl1 ⟨(List.replicate (Int.toNat (u21481.1.length : Int)) ([] : List Bool)), (List.replicate (Int.toNat (u21481.1.length : Int)) false), 0, cl21487, in21490, cl21494, rfl, (hS.meet [3, 1, 2, 0] (by decide) ⟨rfl, rfl, rfl, rfl, rfl, rfl, rfl, trivial⟩ ⟨rfl, rfl, rfl, rfl, trivial⟩ ⟨⟨4, rfl⟩, ⟨1, rfl⟩, ⟨2, rfl⟩, ⟨0, rfl⟩, ⟨7, rfl⟩, trivial⟩)⟩ ?_
      rintro s a w f1 ⟨way49529, open49532, g49534, cl49530, in49531, cl49533, rfl, hS⟩ hM hf1
      have hM : law29_GroupCycles_l18 u21481 way49529 open49532 g49534 = some f1 := hM
      unfold law29_GroupCycles_l18 at hM
      refine wp_seq_k fun K1398 hK1398 => ?_
      refine r_list ?_
      refine wl rfl (ky (v := .bool (decide ((g49534 : Int) < (u21481.1.length : Int)))) hS (y_int hS rfl rfl rfl) rfl rfl fun a hS => ?_)
      refine wpList_nil ?_
      try simp only [Exit.then, Exit.inBlock, ↓reduceIte, Nat.reduceEqDiff]
      refine hK1398 _ _ ?_
      refine wp_seq_k fun K1399 hK1399 => ?_
      rcases bool2 (decide ((g49534 : Int) < (u21481.1.length : Int))) with hb49663 | hb49663
      · replace hM := ct hb49663 hM
        refine c_t hS rfl hb49663 ?_
        refine wp_skip ?_
        try simp only [Exit.then, Exit.inBlock, ↓reduceIte, Nat.reduceEqDiff]
        refine hK1399 _ _ ?_
        refine wp_seq_k fun K1400 hK1400 => ?_
        refine wp_block ?_
        refine wp_seq_k fun K1401 hK1401 => ?_
        refine r_list ?_
        refine wl rfl (ky (v := .int .i64 g49534) hS (y_move hS rfl) rfl rfl fun a hS => ?_)
        obtain ⟨e49664, he49664, hM⟩ := bd hM
        refine wl rfl (k_indexo (R := R_RecordD) hS sl28 ty34 rfl rfl 0 rfl 0 rfl he49664 rfl fun b49666 o49667 p49672 cs49669 hr49668 hO49670 hC49671 a hS => ?_)
        obtain ⟨v49665, rfl, hv49665⟩ := hr49668
        replace hS := hS.fact (SlF R_KeyD v49665 e49664.Reads) hv49665
        refine wl rfl (ky (v := .agg #[.int .i64 e49664.Key.Kind, .string e49664.Key.Text, .string e49664.Value, v49665, .int .i64 e49664.Changed, .int .i64 e49664.Verified, .int .i64 e49664.Cost, .bool e49664.Dirty]) hS (y_loado (k := 0) hS ty34 0 rfl hO49670 hC49671 rfl id (us := [.int .i64 e49664.Key.Kind, .string e49664.Key.Text, .string e49664.Value, v49665, .int .i64 e49664.Changed, .int .i64 e49664.Verified, .int .i64 e49664.Cost, .bool e49664.Dirty]) rfl rfl (fun h => by cases h)) rfl rfl fun a hS => ?_)
        refine wl rfl (k_alloc hS ze34 rfl fun b49673 hnb49675 a w hk hS => ?_)
        refine wl rfl (ky (v := .int .i64 g49534) hS (y_assign hS rfl) rfl rfl fun a hS => ?_)
        refine wl rfl (k_store hS rfl rfl (us := [.int .i64 e49664.Key.Kind, .string e49664.Key.Text, .string e49664.Value, v49665, .int .i64 e49664.Changed, .int .i64 e49664.Verified, .int .i64 e49664.Cost, .bool e49664.Dirty]) rfl ty34 0 rfl rfl rfl (oc rfl (oc rfl (oc rfl (oc (SlR.one ((hS.get 0 rfl) : SlR R_KeyD _ _ _ _)) (oc rfl (oc rfl (oc rfl (oc rfl on)))))))) fun w hk hS => ?_)
        refine wpList_nil ?_
        try simp only [Exit.then, Exit.inBlock, ↓reduceIte, Nat.reduceEqDiff]
        refine hK1401 _ _ ?_
        refine seq_j (J := fun a w => ∃ (open49734 : (List Bool)) (cl49735 : (List Value)), St W0 No T 196 [(3, vz21482_3), (4, .int .i64 (u21481.1.length : Int)), (5, v21486), (6, v21493), (7, .int .i64 g49534), (34, vz21482_3), (35, .int .i64 (u21481.1.length : Int)), (36, .int .i64 g49534)] [.own vz21482_3 34 R_RecordD.size clz21482_4, .own v21486 48 R_L4N.size cl49530, .grp in49531, .own v21493 4 Rep.bool.size cl49735] [RowsF R_RecordD clz21482_4 u21481.1, RowsF R_L4N cl49530 (nzip nst_L4 in49531 way49529), InnF nst_L4 in49531 way49529, RowsF Rep.bool cl49735 open49734, LvF] a w ∧ law29_GroupCycles_j17 u21481 way49529 g49534 open49734 = some f1) ?_ ?_
        · skip
          refine r_list ?_
          refine wl rfl (ky (v := v21493) hS (y_move hS rfl) rfl rfl fun a hS => ?_)
          refine wl rfl (ky (v := .int .i64 g49534) hS (y_move hS rfl) rfl rfl fun a hS => ?_)
          refine wl rfl (ky (v := .pointer (some ⟨b49673, 0 + 0, none⟩)) hS (y_fld hS rfl fl34_0) rfl rfl fun a hS => ?_)
          refine wl rfl (ky (v := .pointer (some ⟨b49673, 0 + 0 + 0, none⟩)) hS (y_fld hS rfl fl32_0) rfl rfl fun a hS => ?_)
          refine wl rfl (ky (v := .int .i64 e49664.Key.Kind) hS (y_load hS rfl ty3 0 rfl id (us := [.int .i64 e49664.Key.Kind]) rfl rfl (fun _ => rfl)) rfl rfl fun a hS => ?_)
          refine wl rfl (ky (v := .bool ((e49664.Key.Kind : Int) == 32)) hS (y_int hS rfl rfl rfl) rfl rfl fun a hS => ?_)
          refine wl rfl (ky (v := .bool ((e49664.Key.Kind : Int) == 32)) hS (y_move hS rfl) rfl rfl fun a hS => ?_)
          rcases bool2 ((e49664.Key.Kind : Int) == 32) with hb49756 | hb49756
          · replace hM := ct hb49756 hM
            refine wg hS rfl rfl rfl hb49756 (ky (v := .pointer (some ⟨b49673, 0 + 5, none⟩)) hS (y_fld hS rfl fl34_4) rfl rfl fun a hS => ?_)
            refine wg hS rfl rfl rfl hb49756 (ky (v := .int .i64 e49664.Verified) hS (y_load hS rfl ty3 0 rfl id (us := [.int .i64 e49664.Verified]) rfl rfl (fun _ => rfl)) rfl rfl fun a hS => ?_)
            refine wg hS rfl rfl rfl hb49756 (ky (v := .bool (decide ((e49664.Verified : Int) < 2))) hS (y_int hS rfl rfl rfl) rfl rfl fun a hS => ?_)
            refine wl rfl (ky (v := .bool (decide ((e49664.Verified : Int) < 2))) hS (y_pickt hS rfl hb49756 rfl) rfl rfl fun a hS => ?_)
            refine wl rfl (ky (v := .bool (decide ((e49664.Verified : Int) < 2))) hS (y_move hS rfl) rfl rfl fun a hS => ?_)
            rcases bool2 (decide ((e49664.Verified : Int) < 2)) with hb49757 | hb49757
            · replace hM := ct hb49757 hM
              refine wg hS rfl rfl rfl hb49757 (ky (v := .pointer (some ⟨b49673, 0 + 7, none⟩)) hS (y_fld hS rfl fl34_6) rfl rfl fun a hS => ?_)
              refine wg hS rfl rfl rfl hb49757 (ky (v := .bool e49664.Dirty) hS (y_load hS rfl ty4 0 rfl id (us := [.bool e49664.Dirty]) rfl rfl (fun _ => rfl)) rfl rfl fun a hS => ?_)
              refine wg hS rfl rfl rfl hb49757 (ky (v := .bool (!(e49664.Dirty))) hS (y_not hS rfl) rfl rfl fun a hS => ?_)
              refine wl rfl (ky (v := .bool (!(e49664.Dirty))) hS (y_pickt hS rfl hb49757 rfl) rfl rfl fun a hS => ?_)
              obtain ⟨e49758, he49758, hM⟩ := bd hM
              refine wl rfl (k_indexo (R := Rep.bool) hS sl48 ty4 rfl rfl 4 rfl 4 rfl he49758 rfl fun b49759 o49760 p49765 cs49762 hr49761 hO49763 hC49764 a hS => ?_)
              obtain rfl := hr49761
              refine wl rfl (k_storeo (R := Rep.bool) (k := 0) (cs := [.bool e49758]) (us := [.bool (!(e49664.Dirty))]) (x' := !(e49664.Dirty)) hS rfl rfl rfl ty4 4 rfl 4 rfl hO49763 hC49764 he49758 rfl rfl rfl rfl fun cl49766 w hk hS => ?_)
              refine wpList_nil ?_
              try simp only [Exit.then, Exit.inBlock, ↓reduceIte, Nat.reduceEqDiff]
              exact ⟨(open49532.set (Int.toNat g49534) (!(e49664.Dirty))), cl49766, (hS.meet [1, 2, 3, 4] (by decide) ⟨rfl, rfl, rfl, rfl, rfl, rfl, rfl, rfl, trivial⟩ ⟨rfl, rfl, rfl, rfl, trivial⟩ ⟨⟨2, rfl⟩, ⟨3, rfl⟩, ⟨4, rfl⟩, ⟨0, rfl⟩, ⟨6, rfl⟩, trivial⟩), hM⟩
            · replace hM := cf hb49757 hM
              refine wn hS rfl rfl rfl hb49757 rfl rfl fun a hS => ?_
              refine wn hS rfl rfl rfl hb49757 rfl rfl fun a hS => ?_
              refine wn hS rfl rfl rfl hb49757 rfl rfl fun a hS => ?_
              refine wl rfl (ky (v := .bool false) hS (y_pickf hS rfl hb49757 rfl) rfl rfl fun a hS => ?_)
              obtain ⟨e49767, he49767, hM⟩ := bd hM
              refine wl rfl (k_indexo (R := Rep.bool) hS sl48 ty4 rfl rfl 4 rfl 4 rfl he49767 rfl fun b49768 o49769 p49774 cs49771 hr49770 hO49772 hC49773 a hS => ?_)
              obtain rfl := hr49770
              refine wl rfl (k_storeo (R := Rep.bool) (k := 0) (cs := [.bool e49767]) (us := [.bool false]) (x' := false) hS rfl rfl rfl ty4 4 rfl 4 rfl hO49772 hC49773 he49767 rfl rfl rfl rfl fun cl49775 w hk hS => ?_)
              refine wpList_nil ?_
              try simp only [Exit.then, Exit.inBlock, ↓reduceIte, Nat.reduceEqDiff]
              exact ⟨(open49532.set (Int.toNat g49534) false), cl49775, (hS.meet [1, 2, 3, 4] (by decide) ⟨rfl, rfl, rfl, rfl, rfl, rfl, rfl, rfl, trivial⟩ ⟨rfl, rfl, rfl, rfl, trivial⟩ ⟨⟨2, rfl⟩, ⟨3, rfl⟩, ⟨4, rfl⟩, ⟨0, rfl⟩, ⟨6, rfl⟩, trivial⟩), hM⟩
          · replace hM := cf hb49756 hM
            refine wn hS rfl rfl rfl hb49756 rfl rfl fun a hS => ?_
            refine wn hS rfl rfl rfl hb49756 rfl rfl fun a hS => ?_
            refine wn hS rfl rfl rfl hb49756 rfl rfl fun a hS => ?_
            refine wl rfl (ky (v := .bool false) hS (y_pickf hS rfl hb49756 rfl) rfl rfl fun a hS => ?_)
            refine wl rfl (ky (v := .bool false) hS (y_move hS rfl) rfl rfl fun a hS => ?_)
            refine wn hS rfl rfl rfl rfl rfl rfl fun a hS => ?_
            refine wn hS rfl rfl rfl rfl rfl rfl fun a hS => ?_
            refine wn hS rfl rfl rfl rfl rfl rfl fun a hS => ?_
            refine wl rfl (ky (v := .bool false) hS (y_pickf hS rfl rfl rfl) rfl rfl fun a hS => ?_)
            obtain ⟨e49776, he49776, hM⟩ := bd hM
            refine wl rfl (k_indexo (R := Rep.bool) hS sl48 ty4 rfl rfl 4 rfl 4 rfl he49776 rfl fun b49777 o49778 p49783 cs49780 hr49779 hO49781 hC49782 a hS => ?_)
            obtain rfl := hr49779
            refine wl rfl (k_storeo (R := Rep.bool) (k := 0) (cs := [.bool e49776]) (us := [.bool false]) (x' := false) hS rfl rfl rfl ty4 4 rfl 4 rfl hO49781 hC49782 he49776 rfl rfl rfl rfl fun cl49784 w hk hS => ?_)
            refine wpList_nil ?_
            try simp only [Exit.then, Exit.inBlock, ↓reduceIte, Nat.reduceEqDiff]
            exact ⟨(open49532.set (Int.toNat g49534) false), cl49784, (hS.meet [1, 2, 3, 4] (by decide) ⟨rfl, rfl, rfl, rfl, rfl, rfl, rfl, rfl, trivial⟩ ⟨rfl, rfl, rfl, rfl, trivial⟩ ⟨⟨2, rfl⟩, ⟨3, rfl⟩, ⟨4, rfl⟩, ⟨0, rfl⟩, ⟨6, rfl⟩, trivial⟩), hM⟩
        · rintro a w ⟨open49734, cl49735, hS, hM⟩
          unfold law29_GroupCycles_j17 at hM
          refine r_list ?_
          refine wl rfl (ky (v := v21486) hS (y_move hS rfl) rfl rfl fun a hS => ?_)
          refine wl rfl (ky (v := .int .i64 g49534) hS (y_move hS rfl) rfl rfl fun a hS => ?_)
          refine wl rfl (ky (v := .int .i64 (u21481.1.length : Int)) hS (y_move hS rfl) rfl rfl fun a hS => ?_)
          obtain ⟨hg49736, hM⟩ := gd_some hM
          obtain ⟨hg49737, hM⟩ := gd_some hM
          refine wl rfl (k_make (R := Rep.bool) (z0 := false) hS el48 ze4 (by decide) rfl rfl hg49736 hg49737 rfl rfl fun v49738 cl49739 a w hk hS => ?_)
          obtain ⟨e49742, he49742, hM⟩ := bd hM
          obtain ⟨q49743, ho49744, hgn49745⟩ := nz_get (N := nst_L4) (hS.get 3 rfl) he49742
          refine wl rfl (k_indexo (R := R_L4N) hS sl47 ty48 rfl rfl 2 rfl 2 rfl hgn49745 rfl fun b49746 o49747 p49752 cs49749 hr49748 hO49750 hC49751 a hS => ?_)
          obtain ⟨rfl, hon49741⟩ := hr49748
          replace hS := (show St W0 No T 196 _ [.own q49743.v 4 Rep.bool.size q49743.cl, .own v49738 4 Rep.bool.size cl49739, .own vz21482_3 34 R_RecordD.size clz21482_4, .own v21486 48 R_L4N.size cl49530, .grp (in49531.set (Int.toNat g49534) nst_L4.no), .own v21493 4 Rep.bool.size cl49735] (RowsF Rep.bool q49743.cl e49742 :: InnF nst_L4 (in49531.set (Int.toNat g49534) nst_L4.no) (way49529.set (Int.toNat g49534) (nst_L4.put [] e49742)) :: _) _ _ from hS.focus (N := nst_L4) 3 rfl 3 rfl he49742 ho49744)
          refine wl rfl (k_storeo (R := R_L4N) (k := 0) (cs := [q49743.v]) (us := [v49738]) (x' := nst_L4.nf v49738 e49742) hS rfl rfl (cells1 (own_one (hS.own _ (List.mem_of_getElem? (i := 1) rfl)).1)) ty48 3 rfl 4 rfl hO49750 hC49751 hgn49745 ⟨rfl, hon49741⟩ rfl rfl ⟨rfl, own_one (hS.own _ (List.mem_of_getElem? (i := 1) rfl)).1⟩ fun cl49754 w hk hS => ?_)
          obtain ⟨in49755, hS⟩ := St.relay (N := nst_L4) (inn := in49531) (xs := way49529) (x := e49742) (i := Int.toNat g49534) hS 1 rfl 4 rfl (by decide) 2 rfl 3 rfl 0 rfl ho49744
          replace hS := (show St W0 No T 196 _ [.own q49743.v 4 Rep.bool.size q49743.cl, .own vz21482_3 34 R_RecordD.size clz21482_4, .own v21486 48 R_L4N.size cl49754, .grp in49755, .own v21493 4 Rep.bool.size cl49735] (RowsF R_L4N cl49754 (nzip nst_L4 in49755 (way49529.set (Int.toNat g49534) (List.replicate (Int.toNat (u21481.1.length : Int)) false))) :: InnF nst_L4 in49755 (way49529.set (Int.toNat g49534) (List.replicate (Int.toNat (u21481.1.length : Int)) false)) :: _) _ _ from hS)
          refine wpList_nil ?_
          try simp only [Exit.then, Exit.inBlock, ↓reduceIte, Nat.reduceEqDiff]
          refine hK1400 _ _ ?_
          refine r_list ?_
          refine wl rfl (ky (v := .int .i64 (IntKind.i64.wrap (g49534 + 1))) hS (y_int hS rfl rfl rfl) rfl rfl fun a hS => ?_)
          refine wl rfl (ky (v := .int .i64 (IntKind.i64.wrap (g49534 + 1))) hS (y_move hS rfl) rfl rfl fun a hS => ?_)
          refine wpList_nil ?_
          try simp only [Exit.then, Exit.inBlock, ↓reduceIte, Nat.reduceEqDiff]
          exact ⟨((way49529.set (Int.toNat g49534) (List.replicate (Int.toNat (u21481.1.length : Int)) false)), open49734, IntKind.i64.wrap (g49534 + 1)), (Option.some.inj hM).symm, (way49529.set (Int.toNat g49534) (List.replicate (Int.toNat (u21481.1.length : Int)) false)), open49734, (IntKind.i64.wrap (g49534 + 1)), cl49754, in49755, cl49735, rfl, (hS.meet [1, 2, 3, 4] (by decide) ⟨rfl, rfl, rfl, rfl, rfl, rfl, rfl, trivial⟩ ⟨rfl, rfl, rfl, rfl, trivial⟩ ⟨⟨6, rfl⟩, ⟨0, rfl⟩, ⟨1, rfl⟩, ⟨9, rfl⟩, ⟨10, rfl⟩, trivial⟩)⟩
      · replace hM := cf hb49663 hM
        refine c_f hS rfl hb49663 ?_
        refine wp_exit ?_
        try simp only [Exit.then, Exit.inBlock, ↓reduceIte, Nat.reduceEqDiff]
        injection hM with hM
        subst hM
        have hr := hf1 _ rfl
        subst hr
        have hM : law29_GroupCycles_j16 u21481 way49529 open49532 = some y := hMo1
        exact ⟨way49529, open49532, cl49530, in49531, cl49533, (hS.meet [0, 1, 2, 3] (by decide) ⟨rfl, rfl, rfl, rfl, trivial⟩ ⟨rfl, rfl, rfl, rfl, trivial⟩ ⟨⟨0, rfl⟩, ⟨1, rfl⟩, ⟨2, rfl⟩, ⟨3, rfl⟩, ⟨4, rfl⟩, trivial⟩), hM⟩
    · rintro a w ⟨way21758, open21761, cl21759, in21760, cl21762, hS, hM⟩
      unfold law29_GroupCycles_j16 at hM
      refine seq_j (J := fun a w => ∃ (way23117 : (List (List Bool))) (cl23118 : (List Value)) (in23119 : (List OwnT)), St W0 No T 196 [(3, vz21482_3), (4, .int .i64 (u21481.1.length : Int)), (5, v21486)] [.own vz21482_3 34 R_RecordD.size clz21482_4, .own v21486 48 R_L4N.size cl23118, .grp in23119] [RowsF R_RecordD clz21482_4 u21481.1, RowsF R_L4N cl23118 (nzip nst_L4 in23119 way23117), InnF nst_L4 in23119 way23117, LvF] a w ∧ law29_GroupCycles_j12 u21481 way23117 = some y) ?_ ?_
      · skip
        refine wp_seq_k fun K1318 hK1318 => ?_
        refine r_list ?_
        refine wl rfl (ky (v := vz21482_3) hS (y_move hS rfl) rfl rfl fun a hS => ?_)
        refine wl rfl (ky (v := .int .i64 (u21481.1.length : Int)) hS (y_leno (R := R_RecordD) (xs := u21481.1) hS sl28 rfl 0 rfl 0 rfl) rfl rfl fun a hS => ?_)
        refine wl rfl (ky (v := .int .i64 0) hS (y_move hS rfl) rfl rfl fun a hS => ?_)
        refine wpList_nil ?_
        try simp only [Exit.then, Exit.inBlock, ↓reduceIte, Nat.reduceEqDiff]
        refine hK1318 _ _ ?_
        refine wp_block ?_
        obtain ⟨r1, hl1, hMo1⟩ := bd hM
        refine wp_lp (fun s : (List (List Bool)) × Int => law29_GroupCycles_l15 u21481 open21761 s.1 s.2) (fun s a w => ∃ (way47894 : (List (List Bool))) (g47897 : Int) (cl47895 : (List Value)) (in47896 : (List OwnT)), (way47894, g47897) = s ∧ St W0 No T 196 [(3, vz21482_3), (4, .int .i64 (u21481.1.length : Int)), (5, v21486), (6, v21493), (64, vz21482_3), (65, .int .i64 (u21481.1.length : Int)), (66, .int .i64 g47897)] [.own vz21482_3 34 R_RecordD.size clz21482_4, .own v21486 48 R_L4N.size cl47895, .grp in47896, .own v21493 4 Rep.bool.size cl21762] [RowsF R_RecordD clz21482_4 u21481.1, RowsF R_L4N cl47895 (nzip nst_L4 in47896 way47894), InnF nst_L4 in47896 way47894, RowsF Rep.bool cl21762 open21761, LvF] a w) hl1 ⟨way21758, 0, cl21759, in21760, rfl, (hS.meet [0, 1, 2, 3] (by decide) ⟨rfl, rfl, rfl, rfl, rfl, rfl, rfl, trivial⟩ ⟨rfl, rfl, rfl, rfl, trivial⟩ ⟨⟨0, rfl⟩, ⟨1, rfl⟩, ⟨2, rfl⟩, ⟨3, rfl⟩, ⟨4, rfl⟩, trivial⟩)⟩ ?_
        rintro s a w f1 ⟨way47894, g47897, cl47895, in47896, rfl, hS⟩ hM hf1
        have hM : law29_GroupCycles_l15 u21481 open21761 way47894 g47897 = some f1 := hM
        unfold law29_GroupCycles_l15 at hM
        refine wp_seq_k fun K1363 hK1363 => ?_
        refine r_list ?_
        refine wl rfl (ky (v := .bool (decide ((g47897 : Int) < (u21481.1.length : Int)))) hS (y_int hS rfl rfl rfl) rfl rfl fun a hS => ?_)
        refine wpList_nil ?_
        try simp only [Exit.then, Exit.inBlock, ↓reduceIte, Nat.reduceEqDiff]
        refine hK1363 _ _ ?_
        refine wp_seq_k fun K1364 hK1364 => ?_
        rcases bool2 (decide ((g47897 : Int) < (u21481.1.length : Int))) with hb48574 | hb48574
        · replace hM := ct hb48574 hM
          refine c_t hS rfl hb48574 ?_
          refine wp_skip ?_
          try simp only [Exit.then, Exit.inBlock, ↓reduceIte, Nat.reduceEqDiff]
          refine hK1364 _ _ ?_
          refine seq_j (J := fun a w => ∃ (way48909 : (List (List Bool))) (cl48910 : (List Value)) (in48911 : (List OwnT)), St W0 No T 196 [(3, vz21482_3), (4, .int .i64 (u21481.1.length : Int)), (5, v21486), (6, v21493), (64, vz21482_3), (65, .int .i64 (u21481.1.length : Int)), (66, .int .i64 g47897)] [.own vz21482_3 34 R_RecordD.size clz21482_4, .own v21486 48 R_L4N.size cl48910, .grp in48911, .own v21493 4 Rep.bool.size cl21762] [RowsF R_RecordD clz21482_4 u21481.1, RowsF R_L4N cl48910 (nzip nst_L4 in48911 way48909), InnF nst_L4 in48911 way48909, RowsF Rep.bool cl21762 open21761, LvF] a w ∧ law29_GroupCycles_j13 g47897 way48909 = some f1) ?_ ?_
          · skip
            refine wp_block ?_
            refine wp_seq_k fun K1375 hK1375 => ?_
            refine r_list ?_
            refine wl rfl (ky (v := .int .i64 g47897) hS (y_move hS rfl) rfl rfl fun a hS => ?_)
            obtain ⟨e48912, he48912, hM⟩ := bd hM
            refine wl rfl (k_indexo (R := R_RecordD) hS sl28 ty34 rfl rfl 0 rfl 0 rfl he48912 rfl fun b48914 o48915 p48920 cs48917 hr48916 hO48918 hC48919 a hS => ?_)
            obtain ⟨v48913, rfl, hv48913⟩ := hr48916
            replace hS := hS.fact (SlF R_KeyD v48913 e48912.Reads) hv48913
            refine wl rfl (ky (v := .agg #[.int .i64 e48912.Key.Kind, .string e48912.Key.Text, .string e48912.Value, v48913, .int .i64 e48912.Changed, .int .i64 e48912.Verified, .int .i64 e48912.Cost, .bool e48912.Dirty]) hS (y_loado (k := 0) hS ty34 0 rfl hO48918 hC48919 rfl id (us := [.int .i64 e48912.Key.Kind, .string e48912.Key.Text, .string e48912.Value, v48913, .int .i64 e48912.Changed, .int .i64 e48912.Verified, .int .i64 e48912.Cost, .bool e48912.Dirty]) rfl rfl (fun h => by cases h)) rfl rfl fun a hS => ?_)
            refine wl rfl (k_alloc hS ze34 rfl fun b48921 hnb48923 a w hk hS => ?_)
            refine wl rfl (ky (v := .int .i64 g47897) hS (y_assign hS rfl) rfl rfl fun a hS => ?_)
            refine wl rfl (k_store hS rfl rfl (us := [.int .i64 e48912.Key.Kind, .string e48912.Key.Text, .string e48912.Value, v48913, .int .i64 e48912.Changed, .int .i64 e48912.Verified, .int .i64 e48912.Cost, .bool e48912.Dirty]) rfl ty34 0 rfl rfl rfl (oc rfl (oc rfl (oc rfl (oc (SlR.one ((hS.get 0 rfl) : SlR R_KeyD _ _ _ _)) (oc rfl (oc rfl (oc rfl (oc rfl on)))))))) fun w hk hS => ?_)
            refine wpList_nil ?_
            try simp only [Exit.then, Exit.inBlock, ↓reduceIte, Nat.reduceEqDiff]
            refine hK1375 _ _ ?_
            refine wp_seq_k fun K1376 hK1376 => ?_
            refine r_list ?_
            refine wl rfl (ky (v := vz21482_3) hS (y_move hS rfl) rfl rfl fun a hS => ?_)
            refine wl rfl (ky (v := .int .i64 (u21481.1.length : Int)) hS (y_leno (R := R_RecordD) (xs := u21481.1) hS sl28 rfl 1 rfl 1 rfl) rfl rfl fun a hS => ?_)
            refine wl rfl (ky (v := .int .i64 0) hS (y_move hS rfl) rfl rfl fun a hS => ?_)
            refine wpList_nil ?_
            try simp only [Exit.then, Exit.inBlock, ↓reduceIte, Nat.reduceEqDiff]
            refine hK1376 _ _ ?_
            refine wp_block ?_
            obtain ⟨r2, hl2, hMo2⟩ := bd hM
            refine wp_lp (fun s : (List (List Bool)) × Int => law29_GroupCycles_l14 u21481 open21761 g47897 e48912 s.1 s.2) (fun s a w => ∃ (way49083 : (List (List Bool))) (g49086 : Int) (cl49084 : (List Value)) (in49085 : (List OwnT)), (way49083, g49086) = s ∧ St W0 No T 196 [(3, vz21482_3), (4, .int .i64 (u21481.1.length : Int)), (5, v21486), (6, v21493), (9, .int .i64 g47897), (10, .pointer (some ⟨b48921, 0, none⟩)), (64, vz21482_3), (65, .int .i64 (u21481.1.length : Int)), (66, .int .i64 g47897), (71, vz21482_3), (72, .int .i64 (u21481.1.length : Int)), (73, .int .i64 g49086)] [.own vz21482_3 34 R_RecordD.size clz21482_4, .own v21486 48 R_L4N.size cl49084, .grp in49085, .own v21493 4 Rep.bool.size cl21762, .box b48921 [.int .i64 e48912.Key.Kind, .string e48912.Key.Text, .string e48912.Value, v48913, .int .i64 e48912.Changed, .int .i64 e48912.Verified, .int .i64 e48912.Cost, .bool e48912.Dirty] 34] [RowsF R_RecordD clz21482_4 u21481.1, RowsF R_L4N cl49084 (nzip nst_L4 in49085 way49083), InnF nst_L4 in49085 way49083, RowsF Rep.bool cl21762 open21761, SlF R_KeyD v48913 e48912.Reads, LvF] a w) hl2 ⟨way47894, 0, cl47895, in47896, rfl, (hS.meet [1, 2, 3, 4, 0] (by decide) ⟨rfl, rfl, rfl, rfl, rfl, rfl, rfl, rfl, rfl, rfl, rfl, rfl, trivial⟩ ⟨rfl, rfl, rfl, rfl, rfl, trivial⟩ ⟨⟨1, rfl⟩, ⟨2, rfl⟩, ⟨3, rfl⟩, ⟨4, rfl⟩, ⟨0, rfl⟩, ⟨5, rfl⟩, trivial⟩)⟩ ?_
            rintro s a w f2 ⟨way49083, g49086, cl49084, in49085, rfl, hS⟩ hM hf2
            have hM : law29_GroupCycles_l14 u21481 open21761 g47897 e48912 way49083 g49086 = some f2 := hM
            unfold law29_GroupCycles_l14 at hM
            refine wp_seq_k fun K1385 hK1385 => ?_
            refine r_list ?_
            refine wl rfl (ky (v := .bool (decide ((g49086 : Int) < (u21481.1.length : Int)))) hS (y_int hS rfl rfl rfl) rfl rfl fun a hS => ?_)
            refine wpList_nil ?_
            try simp only [Exit.then, Exit.inBlock, ↓reduceIte, Nat.reduceEqDiff]
            refine hK1385 _ _ ?_
            refine wp_seq_k fun K1386 hK1386 => ?_
            rcases bool2 (decide ((g49086 : Int) < (u21481.1.length : Int))) with hb49246 | hb49246
            · replace hM := ct hb49246 hM
              refine c_t hS rfl hb49246 ?_
              refine wp_skip ?_
              try simp only [Exit.then, Exit.inBlock, ↓reduceIte, Nat.reduceEqDiff]
              refine hK1386 _ _ ?_
              refine wp_seq_k fun K1387 hK1387 => ?_
              refine wp_block ?_
              refine wp_seq_k fun K1388 hK1388 => ?_
              refine r_list ?_
              refine wl rfl (ky (v := .int .i64 g49086) hS (y_move hS rfl) rfl rfl fun a hS => ?_)
              obtain ⟨e49247, he49247, hM⟩ := bd hM
              refine wl rfl (k_indexo (R := R_RecordD) hS sl28 ty34 rfl rfl 0 rfl 0 rfl he49247 rfl fun b49249 o49250 p49255 cs49252 hr49251 hO49253 hC49254 a hS => ?_)
              obtain ⟨v49248, rfl, hv49248⟩ := hr49251
              replace hS := hS.fact (SlF R_KeyD v49248 e49247.Reads) hv49248
              refine wl rfl (ky (v := .agg #[.int .i64 e49247.Key.Kind, .string e49247.Key.Text, .string e49247.Value, v49248, .int .i64 e49247.Changed, .int .i64 e49247.Verified, .int .i64 e49247.Cost, .bool e49247.Dirty]) hS (y_loado (k := 0) hS ty34 0 rfl hO49253 hC49254 rfl id (us := [.int .i64 e49247.Key.Kind, .string e49247.Key.Text, .string e49247.Value, v49248, .int .i64 e49247.Changed, .int .i64 e49247.Verified, .int .i64 e49247.Cost, .bool e49247.Dirty]) rfl rfl (fun h => by cases h)) rfl rfl fun a hS => ?_)
              refine wl rfl (k_alloc hS ze34 rfl fun b49256 hnb49258 a w hk hS => ?_)
              refine wl rfl (ky (v := .int .i64 g49086) hS (y_assign hS rfl) rfl rfl fun a hS => ?_)
              refine wl rfl (k_store hS rfl rfl (us := [.int .i64 e49247.Key.Kind, .string e49247.Key.Text, .string e49247.Value, v49248, .int .i64 e49247.Changed, .int .i64 e49247.Verified, .int .i64 e49247.Cost, .bool e49247.Dirty]) rfl ty34 0 rfl rfl rfl (oc rfl (oc rfl (oc rfl (oc (SlR.one ((hS.get 0 rfl) : SlR R_KeyD _ _ _ _)) (oc rfl (oc rfl (oc rfl (oc rfl on)))))))) fun w hk hS => ?_)
              refine wpList_nil ?_
              try simp only [Exit.then, Exit.inBlock, ↓reduceIte, Nat.reduceEqDiff]
              refine hK1388 _ _ ?_
              refine draws [(23, .any)] hS mixed rfl (fun c a d v w h => by cases d <;> exact h) fun w hQ hS => ?_
              refine dy 0 (v := v21486) rfl (by kernel_rfl) (by kernel_rfl) (by kernel_rfl) rfl hQ hS (y_move hS rfl) rfl rfl rfl fun a hS => ?_
              refine dy 1 (v := .int .i64 g47897) rfl (by kernel_rfl) (by kernel_rfl) (by kernel_rfl) rfl hQ hS (y_move hS rfl) rfl rfl rfl fun a hS => ?_
              obtain ⟨e49331, he49331, hM⟩ := bd hM
              obtain ⟨q49332, ho49333, hgn49334⟩ := nz_get (N := nst_L4) (hS.get 3 rfl) he49331
              obtain ⟨b49335, o49336, p49341, cs49338, hr49337, hO49339, hC49340, hy49342⟩ := d_indexo (R := R_L4N) hS sl47 ty48 2 rfl 2 rfl hgn49334
              obtain ⟨rfl, hon49330⟩ := hr49337
              refine dy 2 (v := .pointer (some ⟨b49335, o49336, none⟩)) rfl (by kernel_rfl) (by kernel_rfl) (by kernel_rfl) rfl hQ hS (hy49342 rfl rfl) rfl rfl rfl fun a hS => ?_
              refine dy (l := []) 3 (v := q49332.v) rfl (by kernel_rfl) (by kernel_rfl) (by kernel_rfl) (by kernel_rfl) hQ hS (y_loado (k := 0) hS ty48 2 rfl hO49339 hC49340 rfl eo_nil (us := [q49332.v]) rfl rfl (fun _ => rfl)) rfl rfl rfl fun a hS => ?_
              refine dy 4 (v := .int .i64 g49086) rfl (by kernel_rfl) (by kernel_rfl) (by kernel_rfl) rfl hQ hS (y_move hS rfl) rfl rfl rfl fun a hS => ?_
              refine dy 5 (v := v21493) rfl (by kernel_rfl) (by kernel_rfl) (by kernel_rfl) rfl hQ hS (y_move hS rfl) rfl rfl rfl fun a hS => ?_
              refine dy 6 (v := .int .i64 g47897) rfl (by kernel_rfl) (by kernel_rfl) (by kernel_rfl) rfl hQ hS (y_move hS rfl) rfl rfl rfl fun a hS => ?_
              obtain ⟨e49343, he49343, hM⟩ := bd hM
              obtain ⟨b49344, o49345, p49350, cs49347, hr49346, hO49348, hC49349, hy49351⟩ := d_indexo (R := Rep.bool) hS sl48 ty4 4 rfl 4 rfl he49343
              obtain rfl := hr49346
              refine dy 7 (v := .pointer (some ⟨b49344, o49345, none⟩)) rfl (by kernel_rfl) (by kernel_rfl) (by kernel_rfl) rfl hQ hS (hy49351 rfl rfl) rfl rfl rfl fun a hS => ?_
              refine dy (l := []) 8 (v := .bool e49343) rfl (by kernel_rfl) (by kernel_rfl) (by kernel_rfl) (by kernel_rfl) hQ hS (y_loado (k := 0) hS ty4 4 rfl hO49348 hC49349 rfl eo_nil (us := [.bool e49343]) rfl rfl (fun _ => rfl)) rfl rfl rfl fun a hS => ?_
              refine dy 9 (v := .bool e49343) rfl (by kernel_rfl) (by kernel_rfl) (by kernel_rfl) rfl hQ hS (y_move hS rfl) rfl rfl rfl fun a hS => ?_
              rcases bool2 (e49343) with hb49352 | hb49352
              · replace hM := ct hb49352 hM
                refine dyg 10 (v := v21493) rfl (by kernel_rfl) (by kernel_rfl) (by kernel_rfl) rfl hQ hS (y_move hS rfl) rfl rfl rfl hb49352 rfl rfl fun a hS => ?_
                refine dyg 11 (v := .int .i64 g49086) rfl (by kernel_rfl) (by kernel_rfl) (by kernel_rfl) rfl hQ hS (y_move hS rfl) rfl rfl rfl hb49352 rfl rfl fun a hS => ?_
                obtain ⟨e49353, he49353, hM⟩ := bd hM
                obtain ⟨b49354, o49355, p49360, cs49357, hr49356, hO49358, hC49359, hy49361⟩ := d_indexo (R := Rep.bool) hS sl48 ty4 4 rfl 4 rfl he49353
                obtain rfl := hr49356
                refine dyg 12 (v := .pointer (some ⟨b49354, o49355, none⟩)) rfl (by kernel_rfl) (by kernel_rfl) (by kernel_rfl) rfl hQ hS (hy49361 rfl rfl) rfl rfl rfl hb49352 rfl rfl fun a hS => ?_
                refine dyg (l := []) 13 (v := .bool e49353) rfl (by kernel_rfl) (by kernel_rfl) (by kernel_rfl) (by kernel_rfl) hQ hS (y_loado (k := 0) hS ty4 4 rfl hO49358 hC49359 rfl eo_nil (us := [.bool e49353]) rfl rfl (fun _ => rfl)) rfl rfl rfl hb49352 rfl rfl fun a hS => ?_
                refine dy 14 (v := .bool e49353) rfl (by kernel_rfl) (by kernel_rfl) (by kernel_rfl) rfl hQ hS (y_pickt hS rfl hb49352 rfl) rfl rfl rfl fun a hS => ?_
                refine dy 15 (v := .bool e49353) rfl (by kernel_rfl) (by kernel_rfl) (by kernel_rfl) rfl hQ hS (y_move hS rfl) rfl rfl rfl fun a hS => ?_
                rcases bool2 (e49353) with hb49362 | hb49362
                · replace hM := ct hb49362 hM
                  refine dyg 16 (v := .pointer (some ⟨b48921, 0 + 3, none⟩)) rfl (by kernel_rfl) (by kernel_rfl) (by kernel_rfl) rfl hQ hS (y_fld hS rfl fl34_2) rfl rfl rfl hb49362 rfl rfl fun a hS => ?_
                  refine dyg (l := []) 17 (v := v48913) rfl (by kernel_rfl) (by kernel_rfl) (by kernel_rfl) (by kernel_rfl) hQ hS (y_load hS rfl ty23 5 rfl eo_nil (us := [v48913]) rfl rfl (fun _ => rfl)) rfl rfl rfl hb49362 rfl rfl fun a hS => ?_
                  refine dyg 18 (v := .pointer (some ⟨b49256, 0 + 0, none⟩)) rfl (by kernel_rfl) (by kernel_rfl) (by kernel_rfl) rfl hQ hS (y_fld hS rfl fl34_0) rfl rfl rfl hb49362 rfl rfl fun a hS => ?_
                  refine dyg (l := []) 19 (v := .agg #[.int .i64 e49247.Key.Kind, .string e49247.Key.Text]) rfl (by kernel_rfl) (by kernel_rfl) (by kernel_rfl) (by kernel_rfl) hQ hS (y_load hS rfl ty32 0 rfl eo_nil (us := [.int .i64 e49247.Key.Kind, .string e49247.Key.Text]) rfl rfl (fun h => by cases h)) rfl rfl rfl hb49362 rfl rfl fun a hS => ?_
                  obtain ⟨u49363, hu49363, hM⟩ := bd hM
                  refine wpE_oneg (i := 20) rfl (by kernel_rfl) hS rfl rfl rfl hb49362 (k_call hS ci19 rfl rfl (ref23_Has_c _ _ hS.dlt e48912.Reads e49247.Key _ (hS.get 5 rfl) _ hu49363) fun _ w hR a hk hA => ⟨stN (hk), ?_⟩)
                  have he := Eq.symm hR
                  subst he
                  have hS := hA [] (fun r hr => by cases hr) List.Pairwise.nil
                  refine dy 21 (v := .bool u49363) rfl (by kernel_rfl) (by kernel_rfl) (by kernel_rfl) rfl hQ hS (y_pickt hS rfl hb49362 rfl) rfl rfl rfl fun a hS => ?_
                  have hZ := hS.focus (N := nst_L4) 3 rfl 3 rfl he49331 ho49333
                  replace hZ := (show St W0 No T 196 _ (.own q49332.v 4 Rep.bool.size q49332.cl :: _) (RowsF Rep.bool q49332.cl e49331 :: _) _ _ from hZ)
                  obtain ⟨e49365, he49365, hM⟩ := bd hM
                  obtain ⟨b49366, o49367, p49372, cs49369, hr49368, hO49370, hC49371, hy49373⟩ := d_indexo (R := Rep.bool) hZ sl48 ty4 0 rfl 0 rfl he49365
                  obtain rfl := hr49368
                  refine dy 22 (v := .pointer (some ⟨b49366, o49367, none⟩)) rfl (by kernel_rfl) (by kernel_rfl) (by kernel_rfl) rfl hQ hS (hy49373 rfl rfl) rfl rfl rfl fun a hS => ?_
                  replace hS := (show St W0 No T 196 _ [.own q49332.v 4 Rep.bool.size q49332.cl, .box b49256 [.int .i64 e49247.Key.Kind, .string e49247.Key.Text, .string e49247.Value, v49248, .int .i64 e49247.Changed, .int .i64 e49247.Verified, .int .i64 e49247.Cost, .bool e49247.Dirty] 34, .own vz21482_3 34 R_RecordD.size clz21482_4, .own v21486 48 R_L4N.size cl49084, .grp (in49085.set (Int.toNat g47897) nst_L4.no), .own v21493 4 Rep.bool.size cl21762, .box b48921 [.int .i64 e48912.Key.Kind, .string e48912.Key.Text, .string e48912.Value, v48913, .int .i64 e48912.Changed, .int .i64 e48912.Verified, .int .i64 e48912.Cost, .bool e48912.Dirty] 34] (RowsF Rep.bool q49332.cl e49331 :: InnF nst_L4 (in49085.set (Int.toNat g47897) nst_L4.no) (way49083.set (Int.toNat g47897) (nst_L4.put [] e49331)) :: _) _ _ from hS.focus (N := nst_L4) 3 rfl 3 rfl he49331 ho49333)
                  refine wpE_one (i := 23) rfl (by kernel_rfl) rfl (k_storeo (R := Rep.bool) (k := 0) (cs := [.bool e49365]) (us := [.bool u49363]) (x' := u49363) hS rfl rfl rfl ty4 0 rfl 0 rfl hO49370 hC49371 he49365 rfl rfl rfl rfl fun cl49375 w hk hS => ⟨stM rfl hk etAny, ?_⟩)
                  replace hS := hS.fact (RowsF R_L4N cl49084 ((nzip nst_L4 in49085 way49083).set (Int.toNat g47897) (nst_L4.nf q49332.v e49331))) (by rw [set_getI hgn49334]; exact hS.get 5 rfl)
                  obtain ⟨in49376, hS⟩ := St.relay (N := nst_L4) (inn := in49085) (xs := way49083) (x := e49331) (i := Int.toNat g47897) hS 0 rfl 4 rfl (by decide) 3 rfl 1 rfl 0 rfl ho49333
                  replace hS := (show St W0 No T 196 _ [.box b49256 [.int .i64 e49247.Key.Kind, .string e49247.Key.Text, .string e49247.Value, v49248, .int .i64 e49247.Changed, .int .i64 e49247.Verified, .int .i64 e49247.Cost, .bool e49247.Dirty] 34, .own vz21482_3 34 R_RecordD.size clz21482_4, .own v21486 48 R_L4N.size cl49084, .grp in49376, .own v21493 4 Rep.bool.size cl21762, .box b48921 [.int .i64 e48912.Key.Kind, .string e48912.Key.Text, .string e48912.Value, v48913, .int .i64 e48912.Changed, .int .i64 e48912.Verified, .int .i64 e48912.Cost, .bool e48912.Dirty] 34] (RowsF R_L4N cl49084 (nzip nst_L4 in49376 (way49083.set (Int.toNat g47897) (e49331.set (Int.toNat g49086) u49363))) :: InnF nst_L4 in49376 (way49083.set (Int.toNat g47897) (e49331.set (Int.toNat g49086) u49363)) :: _) _ _ from hS)
                  refine wpE_done (by kernel_rfl) ?_ _
                  try simp only [Exit.then, Exit.inBlock, ↓reduceIte, Nat.reduceEqDiff]
                  refine hK1387 _ _ ?_
                  refine r_list ?_
                  refine wl rfl (ky (v := .int .i64 (IntKind.i64.wrap (g49086 + 1))) hS (y_int hS rfl rfl rfl) rfl rfl fun a hS => ?_)
                  refine wl rfl (ky (v := .int .i64 (IntKind.i64.wrap (g49086 + 1))) hS (y_move hS rfl) rfl rfl fun a hS => ?_)
                  refine wpList_nil ?_
                  try simp only [Exit.then, Exit.inBlock, ↓reduceIte, Nat.reduceEqDiff]
                  exact ⟨((way49083.set (Int.toNat g47897) (e49331.set (Int.toNat g49086) u49363)), IntKind.i64.wrap (g49086 + 1)), (Option.some.inj hM).symm, (way49083.set (Int.toNat g47897) (e49331.set (Int.toNat g49086) u49363)), (IntKind.i64.wrap (g49086 + 1)), cl49084, in49376, rfl, (hS.meet [1, 2, 3, 4, 5] (by decide) ⟨rfl, rfl, rfl, rfl, rfl, rfl, rfl, rfl, rfl, rfl, rfl, rfl, trivial⟩ ⟨rfl, rfl, rfl, rfl, rfl, trivial⟩ ⟨⟨7, rfl⟩, ⟨0, rfl⟩, ⟨1, rfl⟩, ⟨10, rfl⟩, ⟨11, rfl⟩, ⟨12, rfl⟩, trivial⟩)⟩
                · replace hM := cf hb49362 hM
                  refine dyn 16 rfl (by kernel_rfl) (by kernel_rfl) (by kernel_rfl) hQ hS rfl rfl rfl hb49362 rfl rfl fun a hS => ?_
                  refine dyn 17 rfl (by kernel_rfl) (by kernel_rfl) (by kernel_rfl) hQ hS rfl rfl rfl hb49362 rfl rfl fun a hS => ?_
                  refine dyn 18 rfl (by kernel_rfl) (by kernel_rfl) (by kernel_rfl) hQ hS rfl rfl rfl hb49362 rfl rfl fun a hS => ?_
                  refine dyn 19 rfl (by kernel_rfl) (by kernel_rfl) (by kernel_rfl) hQ hS rfl rfl rfl hb49362 rfl rfl fun a hS => ?_
                  refine dyn 20 rfl (by kernel_rfl) (by kernel_rfl) (by kernel_rfl) hQ hS rfl rfl rfl hb49362 rfl rfl fun a hS => ?_
                  refine dy 21 (v := .bool false) rfl (by kernel_rfl) (by kernel_rfl) (by kernel_rfl) rfl hQ hS (y_pickf hS rfl hb49362 rfl) rfl rfl rfl fun a hS => ?_
                  have hZ := hS.focus (N := nst_L4) 3 rfl 3 rfl he49331 ho49333
                  replace hZ := (show St W0 No T 196 _ (.own q49332.v 4 Rep.bool.size q49332.cl :: _) (RowsF Rep.bool q49332.cl e49331 :: _) _ _ from hZ)
                  obtain ⟨e49377, he49377, hM⟩ := bd hM
                  obtain ⟨b49378, o49379, p49384, cs49381, hr49380, hO49382, hC49383, hy49385⟩ := d_indexo (R := Rep.bool) hZ sl48 ty4 0 rfl 0 rfl he49377
                  obtain rfl := hr49380
                  refine dy 22 (v := .pointer (some ⟨b49378, o49379, none⟩)) rfl (by kernel_rfl) (by kernel_rfl) (by kernel_rfl) rfl hQ hS (hy49385 rfl rfl) rfl rfl rfl fun a hS => ?_
                  replace hS := (show St W0 No T 196 _ [.own q49332.v 4 Rep.bool.size q49332.cl, .box b49256 [.int .i64 e49247.Key.Kind, .string e49247.Key.Text, .string e49247.Value, v49248, .int .i64 e49247.Changed, .int .i64 e49247.Verified, .int .i64 e49247.Cost, .bool e49247.Dirty] 34, .own vz21482_3 34 R_RecordD.size clz21482_4, .own v21486 48 R_L4N.size cl49084, .grp (in49085.set (Int.toNat g47897) nst_L4.no), .own v21493 4 Rep.bool.size cl21762, .box b48921 [.int .i64 e48912.Key.Kind, .string e48912.Key.Text, .string e48912.Value, v48913, .int .i64 e48912.Changed, .int .i64 e48912.Verified, .int .i64 e48912.Cost, .bool e48912.Dirty] 34] (RowsF Rep.bool q49332.cl e49331 :: InnF nst_L4 (in49085.set (Int.toNat g47897) nst_L4.no) (way49083.set (Int.toNat g47897) (nst_L4.put [] e49331)) :: _) _ _ from hS.focus (N := nst_L4) 3 rfl 3 rfl he49331 ho49333)
                  refine wpE_one (i := 23) rfl (by kernel_rfl) rfl (k_storeo (R := Rep.bool) (k := 0) (cs := [.bool e49377]) (us := [.bool false]) (x' := false) hS rfl rfl rfl ty4 0 rfl 0 rfl hO49382 hC49383 he49377 rfl rfl rfl rfl fun cl49387 w hk hS => ⟨stM rfl hk etAny, ?_⟩)
                  replace hS := hS.fact (RowsF R_L4N cl49084 ((nzip nst_L4 in49085 way49083).set (Int.toNat g47897) (nst_L4.nf q49332.v e49331))) (by rw [set_getI hgn49334]; exact hS.get 5 rfl)
                  obtain ⟨in49388, hS⟩ := St.relay (N := nst_L4) (inn := in49085) (xs := way49083) (x := e49331) (i := Int.toNat g47897) hS 0 rfl 4 rfl (by decide) 3 rfl 1 rfl 0 rfl ho49333
                  replace hS := (show St W0 No T 196 _ [.box b49256 [.int .i64 e49247.Key.Kind, .string e49247.Key.Text, .string e49247.Value, v49248, .int .i64 e49247.Changed, .int .i64 e49247.Verified, .int .i64 e49247.Cost, .bool e49247.Dirty] 34, .own vz21482_3 34 R_RecordD.size clz21482_4, .own v21486 48 R_L4N.size cl49084, .grp in49388, .own v21493 4 Rep.bool.size cl21762, .box b48921 [.int .i64 e48912.Key.Kind, .string e48912.Key.Text, .string e48912.Value, v48913, .int .i64 e48912.Changed, .int .i64 e48912.Verified, .int .i64 e48912.Cost, .bool e48912.Dirty] 34] (RowsF R_L4N cl49084 (nzip nst_L4 in49388 (way49083.set (Int.toNat g47897) (e49331.set (Int.toNat g49086) false))) :: InnF nst_L4 in49388 (way49083.set (Int.toNat g47897) (e49331.set (Int.toNat g49086) false)) :: _) _ _ from hS)
                  refine wpE_done (by kernel_rfl) ?_ _
                  try simp only [Exit.then, Exit.inBlock, ↓reduceIte, Nat.reduceEqDiff]
                  refine hK1387 _ _ ?_
                  refine r_list ?_
                  refine wl rfl (ky (v := .int .i64 (IntKind.i64.wrap (g49086 + 1))) hS (y_int hS rfl rfl rfl) rfl rfl fun a hS => ?_)
                  refine wl rfl (ky (v := .int .i64 (IntKind.i64.wrap (g49086 + 1))) hS (y_move hS rfl) rfl rfl fun a hS => ?_)
                  refine wpList_nil ?_
                  try simp only [Exit.then, Exit.inBlock, ↓reduceIte, Nat.reduceEqDiff]
                  exact ⟨((way49083.set (Int.toNat g47897) (e49331.set (Int.toNat g49086) false)), IntKind.i64.wrap (g49086 + 1)), (Option.some.inj hM).symm, (way49083.set (Int.toNat g47897) (e49331.set (Int.toNat g49086) false)), (IntKind.i64.wrap (g49086 + 1)), cl49084, in49388, rfl, (hS.meet [1, 2, 3, 4, 5] (by decide) ⟨rfl, rfl, rfl, rfl, rfl, rfl, rfl, rfl, rfl, rfl, rfl, rfl, trivial⟩ ⟨rfl, rfl, rfl, rfl, rfl, trivial⟩ ⟨⟨7, rfl⟩, ⟨0, rfl⟩, ⟨1, rfl⟩, ⟨10, rfl⟩, ⟨11, rfl⟩, ⟨12, rfl⟩, trivial⟩)⟩
              · replace hM := cf hb49352 hM
                refine dyn 10 rfl (by kernel_rfl) (by kernel_rfl) (by kernel_rfl) hQ hS rfl rfl rfl hb49352 rfl rfl fun a hS => ?_
                refine dyn 11 rfl (by kernel_rfl) (by kernel_rfl) (by kernel_rfl) hQ hS rfl rfl rfl hb49352 rfl rfl fun a hS => ?_
                refine dyn 12 rfl (by kernel_rfl) (by kernel_rfl) (by kernel_rfl) hQ hS rfl rfl rfl hb49352 rfl rfl fun a hS => ?_
                refine dyn 13 rfl (by kernel_rfl) (by kernel_rfl) (by kernel_rfl) hQ hS rfl rfl rfl hb49352 rfl rfl fun a hS => ?_
                refine dy 14 (v := .bool false) rfl (by kernel_rfl) (by kernel_rfl) (by kernel_rfl) rfl hQ hS (y_pickf hS rfl hb49352 rfl) rfl rfl rfl fun a hS => ?_
                refine dy 15 (v := .bool false) rfl (by kernel_rfl) (by kernel_rfl) (by kernel_rfl) rfl hQ hS (y_move hS rfl) rfl rfl rfl fun a hS => ?_
                refine dyn 16 rfl (by kernel_rfl) (by kernel_rfl) (by kernel_rfl) hQ hS rfl rfl rfl rfl rfl rfl fun a hS => ?_
                refine dyn 17 rfl (by kernel_rfl) (by kernel_rfl) (by kernel_rfl) hQ hS rfl rfl rfl rfl rfl rfl fun a hS => ?_
                refine dyn 18 rfl (by kernel_rfl) (by kernel_rfl) (by kernel_rfl) hQ hS rfl rfl rfl rfl rfl rfl fun a hS => ?_
                refine dyn 19 rfl (by kernel_rfl) (by kernel_rfl) (by kernel_rfl) hQ hS rfl rfl rfl rfl rfl rfl fun a hS => ?_
                refine dyn 20 rfl (by kernel_rfl) (by kernel_rfl) (by kernel_rfl) hQ hS rfl rfl rfl rfl rfl rfl fun a hS => ?_
                refine dy 21 (v := .bool false) rfl (by kernel_rfl) (by kernel_rfl) (by kernel_rfl) rfl hQ hS (y_pickf hS rfl rfl rfl) rfl rfl rfl fun a hS => ?_
                have hZ := hS.focus (N := nst_L4) 3 rfl 3 rfl he49331 ho49333
                replace hZ := (show St W0 No T 196 _ (.own q49332.v 4 Rep.bool.size q49332.cl :: _) (RowsF Rep.bool q49332.cl e49331 :: _) _ _ from hZ)
                obtain ⟨e49389, he49389, hM⟩ := bd hM
                obtain ⟨b49390, o49391, p49396, cs49393, hr49392, hO49394, hC49395, hy49397⟩ := d_indexo (R := Rep.bool) hZ sl48 ty4 0 rfl 0 rfl he49389
                obtain rfl := hr49392
                refine dy 22 (v := .pointer (some ⟨b49390, o49391, none⟩)) rfl (by kernel_rfl) (by kernel_rfl) (by kernel_rfl) rfl hQ hS (hy49397 rfl rfl) rfl rfl rfl fun a hS => ?_
                replace hS := (show St W0 No T 196 _ [.own q49332.v 4 Rep.bool.size q49332.cl, .box b49256 [.int .i64 e49247.Key.Kind, .string e49247.Key.Text, .string e49247.Value, v49248, .int .i64 e49247.Changed, .int .i64 e49247.Verified, .int .i64 e49247.Cost, .bool e49247.Dirty] 34, .own vz21482_3 34 R_RecordD.size clz21482_4, .own v21486 48 R_L4N.size cl49084, .grp (in49085.set (Int.toNat g47897) nst_L4.no), .own v21493 4 Rep.bool.size cl21762, .box b48921 [.int .i64 e48912.Key.Kind, .string e48912.Key.Text, .string e48912.Value, v48913, .int .i64 e48912.Changed, .int .i64 e48912.Verified, .int .i64 e48912.Cost, .bool e48912.Dirty] 34] (RowsF Rep.bool q49332.cl e49331 :: InnF nst_L4 (in49085.set (Int.toNat g47897) nst_L4.no) (way49083.set (Int.toNat g47897) (nst_L4.put [] e49331)) :: _) _ _ from hS.focus (N := nst_L4) 3 rfl 3 rfl he49331 ho49333)
                refine wpE_one (i := 23) rfl (by kernel_rfl) rfl (k_storeo (R := Rep.bool) (k := 0) (cs := [.bool e49389]) (us := [.bool false]) (x' := false) hS rfl rfl rfl ty4 0 rfl 0 rfl hO49394 hC49395 he49389 rfl rfl rfl rfl fun cl49399 w hk hS => ⟨stM rfl hk etAny, ?_⟩)
                replace hS := hS.fact (RowsF R_L4N cl49084 ((nzip nst_L4 in49085 way49083).set (Int.toNat g47897) (nst_L4.nf q49332.v e49331))) (by rw [set_getI hgn49334]; exact hS.get 5 rfl)
                obtain ⟨in49400, hS⟩ := St.relay (N := nst_L4) (inn := in49085) (xs := way49083) (x := e49331) (i := Int.toNat g47897) hS 0 rfl 4 rfl (by decide) 3 rfl 1 rfl 0 rfl ho49333
                replace hS := (show St W0 No T 196 _ [.box b49256 [.int .i64 e49247.Key.Kind, .string e49247.Key.Text, .string e49247.Value, v49248, .int .i64 e49247.Changed, .int .i64 e49247.Verified, .int .i64 e49247.Cost, .bool e49247.Dirty] 34, .own vz21482_3 34 R_RecordD.size clz21482_4, .own v21486 48 R_L4N.size cl49084, .grp in49400, .own v21493 4 Rep.bool.size cl21762, .box b48921 [.int .i64 e48912.Key.Kind, .string e48912.Key.Text, .string e48912.Value, v48913, .int .i64 e48912.Changed, .int .i64 e48912.Verified, .int .i64 e48912.Cost, .bool e48912.Dirty] 34] (RowsF R_L4N cl49084 (nzip nst_L4 in49400 (way49083.set (Int.toNat g47897) (e49331.set (Int.toNat g49086) false))) :: InnF nst_L4 in49400 (way49083.set (Int.toNat g47897) (e49331.set (Int.toNat g49086) false)) :: _) _ _ from hS)
                refine wpE_done (by kernel_rfl) ?_ _
                try simp only [Exit.then, Exit.inBlock, ↓reduceIte, Nat.reduceEqDiff]
                refine hK1387 _ _ ?_
                refine r_list ?_
                refine wl rfl (ky (v := .int .i64 (IntKind.i64.wrap (g49086 + 1))) hS (y_int hS rfl rfl rfl) rfl rfl fun a hS => ?_)
                refine wl rfl (ky (v := .int .i64 (IntKind.i64.wrap (g49086 + 1))) hS (y_move hS rfl) rfl rfl fun a hS => ?_)
                refine wpList_nil ?_
                try simp only [Exit.then, Exit.inBlock, ↓reduceIte, Nat.reduceEqDiff]
                exact ⟨((way49083.set (Int.toNat g47897) (e49331.set (Int.toNat g49086) false)), IntKind.i64.wrap (g49086 + 1)), (Option.some.inj hM).symm, (way49083.set (Int.toNat g47897) (e49331.set (Int.toNat g49086) false)), (IntKind.i64.wrap (g49086 + 1)), cl49084, in49400, rfl, (hS.meet [1, 2, 3, 4, 5] (by decide) ⟨rfl, rfl, rfl, rfl, rfl, rfl, rfl, rfl, rfl, rfl, rfl, rfl, trivial⟩ ⟨rfl, rfl, rfl, rfl, rfl, trivial⟩ ⟨⟨7, rfl⟩, ⟨0, rfl⟩, ⟨1, rfl⟩, ⟨10, rfl⟩, ⟨11, rfl⟩, ⟨12, rfl⟩, trivial⟩)⟩
            · replace hM := cf hb49246 hM
              refine c_f hS rfl hb49246 ?_
              refine wp_exit ?_
              try simp only [Exit.then, Exit.inBlock, ↓reduceIte, Nat.reduceEqDiff]
              injection hM with hM
              subst hM
              have hr := hf2 _ rfl
              subst hr
              have hM : law29_GroupCycles_j13 g47897 way49083 = some f1 := hMo2
              exact ⟨way49083, cl49084, in49085, (hS.meet [0, 1, 2, 3] (by decide) ⟨rfl, rfl, rfl, rfl, rfl, rfl, rfl, trivial⟩ ⟨rfl, rfl, rfl, rfl, trivial⟩ ⟨⟨0, rfl⟩, ⟨1, rfl⟩, ⟨2, rfl⟩, ⟨3, rfl⟩, ⟨5, rfl⟩, trivial⟩), hM⟩
          · rintro a w ⟨way48909, cl48910, in48911, hS, hM⟩
            unfold law29_GroupCycles_j13 at hM
            refine r_list ?_
            refine wl rfl (ky (v := .int .i64 (IntKind.i64.wrap (g47897 + 1))) hS (y_int hS rfl rfl rfl) rfl rfl fun a hS => ?_)
            refine wl rfl (ky (v := .int .i64 (IntKind.i64.wrap (g47897 + 1))) hS (y_move hS rfl) rfl rfl fun a hS => ?_)
            refine wpList_nil ?_
            try simp only [Exit.then, Exit.inBlock, ↓reduceIte, Nat.reduceEqDiff]
            exact ⟨(way48909, IntKind.i64.wrap (g47897 + 1)), (Option.some.inj hM).symm, way48909, (IntKind.i64.wrap (g47897 + 1)), cl48910, in48911, rfl, (hS.meet [0, 1, 2, 3] (by decide) ⟨rfl, rfl, rfl, rfl, rfl, rfl, rfl, trivial⟩ ⟨rfl, rfl, rfl, rfl, trivial⟩ ⟨⟨0, rfl⟩, ⟨1, rfl⟩, ⟨2, rfl⟩, ⟨3, rfl⟩, ⟨4, rfl⟩, trivial⟩)⟩
        · replace hM := cf hb48574 hM
          refine c_f hS rfl hb48574 ?_
          refine wp_exit ?_
          try simp only [Exit.then, Exit.inBlock, ↓reduceIte, Nat.reduceEqDiff]
          injection hM with hM
          subst hM
          have hr := hf1 _ rfl
          subst hr
          have hM : law29_GroupCycles_j12 u21481 way47894 = some y := hMo1
          exact ⟨way47894, cl47895, in47896, (hS.meet [0, 1, 2] (by decide) ⟨rfl, rfl, rfl, trivial⟩ ⟨rfl, rfl, rfl, trivial⟩ ⟨⟨0, rfl⟩, ⟨1, rfl⟩, ⟨2, rfl⟩, ⟨4, rfl⟩, trivial⟩), hM⟩
      · rintro a w ⟨way23117, cl23118, in23119, hS, hM⟩
        unfold law29_GroupCycles_j12 at hM
        refine seq_j (J := fun a w => ∃ (way30918 : (List (List Bool))) (cl30919 : (List Value)) (in30920 : (List OwnT)), St W0 No T 196 [(3, vz21482_3), (5, v21486)] [.own vz21482_3 34 R_RecordD.size clz21482_4, .own v21486 48 R_L4N.size cl30919, .grp in30920] [RowsF R_RecordD clz21482_4 u21481.1, RowsF R_L4N cl30919 (nzip nst_L4 in30920 way30918), InnF nst_L4 in30920 way30918, LvF] a w ∧ law29_GroupCycles_j6 u21481 way30918 = some y) ?_ ?_
        · skip
          refine wp_seq_k fun K1009 hK1009 => ?_
          refine r_list ?_
          refine wl rfl (ky (v := .int .i64 (u21481.1.length : Int)) hS (y_move hS rfl) rfl rfl fun a hS => ?_)
          refine wl rfl (ky (v := .int .i64 0) hS (y_move hS rfl) rfl rfl fun a hS => ?_)
          refine wpList_nil ?_
          try simp only [Exit.then, Exit.inBlock, ↓reduceIte, Nat.reduceEqDiff]
          refine hK1009 _ _ ?_
          refine wp_block ?_
          obtain ⟨r1, hl1, hMo1⟩ := bd hM
          refine wp_lp (fun s : (List (List Bool)) × Int => law29_GroupCycles_l11 u21481 s.1 s.2) (fun s a w => ∃ (way38217 : (List (List Bool))) (g38220 : Int) (cl38218 : (List Value)) (in38219 : (List OwnT)), (way38217, g38220) = s ∧ St W0 No T 196 [(3, vz21482_3), (4, .int .i64 (u21481.1.length : Int)), (5, v21486), (103, .int .i64 (u21481.1.length : Int)), (104, .int .i64 g38220)] [.own vz21482_3 34 R_RecordD.size clz21482_4, .own v21486 48 R_L4N.size cl38218, .grp in38219] [RowsF R_RecordD clz21482_4 u21481.1, RowsF R_L4N cl38218 (nzip nst_L4 in38219 way38217), InnF nst_L4 in38219 way38217, LvF] a w) hl1 ⟨way23117, 0, cl23118, in23119, rfl, (hS.meet [0, 1, 2] (by decide) ⟨rfl, rfl, rfl, rfl, rfl, trivial⟩ ⟨rfl, rfl, rfl, trivial⟩ ⟨⟨0, rfl⟩, ⟨1, rfl⟩, ⟨2, rfl⟩, ⟨3, rfl⟩, trivial⟩)⟩ ?_
          rintro s a w f1 ⟨way38217, g38220, cl38218, in38219, rfl, hS⟩ hM hf1
          have hM : law29_GroupCycles_l11 u21481 way38217 g38220 = some f1 := hM
          unfold law29_GroupCycles_l11 at hM
          refine wp_seq_k fun K1198 hK1198 => ?_
          refine r_list ?_
          refine wl rfl (ky (v := .bool (decide ((g38220 : Int) < (u21481.1.length : Int)))) hS (y_int hS rfl rfl rfl) rfl rfl fun a hS => ?_)
          refine wpList_nil ?_
          try simp only [Exit.then, Exit.inBlock, ↓reduceIte, Nat.reduceEqDiff]
          refine hK1198 _ _ ?_
          refine wp_seq_k fun K1199 hK1199 => ?_
          rcases bool2 (decide ((g38220 : Int) < (u21481.1.length : Int))) with hb42121 | hb42121
          · replace hM := ct hb42121 hM
            refine c_t hS rfl hb42121 ?_
            refine wp_skip ?_
            try simp only [Exit.then, Exit.inBlock, ↓reduceIte, Nat.reduceEqDiff]
            refine hK1199 _ _ ?_
            refine seq_j (J := fun a w => ∃ (way44068 : (List (List Bool))) (cl44069 : (List Value)) (in44070 : (List OwnT)), St W0 No T 196 [(3, vz21482_3), (4, .int .i64 (u21481.1.length : Int)), (5, v21486), (103, .int .i64 (u21481.1.length : Int)), (104, .int .i64 g38220)] [.own vz21482_3 34 R_RecordD.size clz21482_4, .own v21486 48 R_L4N.size cl44069, .grp in44070] [RowsF R_RecordD clz21482_4 u21481.1, RowsF R_L4N cl44069 (nzip nst_L4 in44070 way44068), InnF nst_L4 in44070 way44068, LvF] a w ∧ law29_GroupCycles_j7 g38220 way44068 = some f1) ?_ ?_
            · skip
              refine wp_block ?_
              refine wp_seq_k fun K1246 hK1246 => ?_
              refine r_list ?_
              refine wl rfl (ky (v := .int .i64 g38220) hS (y_move hS rfl) rfl rfl fun a hS => ?_)
              refine wl rfl (ky (v := .int .i64 g38220) hS (y_assign hS rfl) rfl rfl fun a hS => ?_)
              refine wpList_nil ?_
              try simp only [Exit.then, Exit.inBlock, ↓reduceIte, Nat.reduceEqDiff]
              refine hK1246 _ _ ?_
              refine wp_seq_k fun K1247 hK1247 => ?_
              refine r_list ?_
              refine wl rfl (ky (v := .int .i64 (u21481.1.length : Int)) hS (y_move hS rfl) rfl rfl fun a hS => ?_)
              refine wl rfl (ky (v := .int .i64 0) hS (y_move hS rfl) rfl rfl fun a hS => ?_)
              refine wpList_nil ?_
              try simp only [Exit.then, Exit.inBlock, ↓reduceIte, Nat.reduceEqDiff]
              refine hK1247 _ _ ?_
              refine wp_block ?_
              obtain ⟨r2, hl2, hMo2⟩ := bd hM
              refine wp_lp (fun s : (List (List Bool)) × Int => law29_GroupCycles_l10 u21481 g38220 s.1 s.2) (fun s a w => ∃ (way45041 : (List (List Bool))) (g45044 : Int) (cl45042 : (List Value)) (in45043 : (List OwnT)), (way45041, g45044) = s ∧ St W0 No T 196 [(3, vz21482_3), (4, .int .i64 (u21481.1.length : Int)), (5, v21486), (13, .int .i64 g38220), (103, .int .i64 (u21481.1.length : Int)), (104, .int .i64 g38220), (107, .int .i64 (u21481.1.length : Int)), (108, .int .i64 g45044)] [.own vz21482_3 34 R_RecordD.size clz21482_4, .own v21486 48 R_L4N.size cl45042, .grp in45043] [RowsF R_RecordD clz21482_4 u21481.1, RowsF R_L4N cl45042 (nzip nst_L4 in45043 way45041), InnF nst_L4 in45043 way45041, LvF] a w) hl2 ⟨way38217, 0, cl38218, in38219, rfl, (hS.meet [0, 1, 2] (by decide) ⟨rfl, rfl, rfl, rfl, rfl, rfl, rfl, rfl, trivial⟩ ⟨rfl, rfl, rfl, trivial⟩ ⟨⟨0, rfl⟩, ⟨1, rfl⟩, ⟨2, rfl⟩, ⟨3, rfl⟩, trivial⟩)⟩ ?_
              rintro s a w f2 ⟨way45041, g45044, cl45042, in45043, rfl, hS⟩ hM hf2
              have hM : law29_GroupCycles_l10 u21481 g38220 way45041 g45044 = some f2 := hM
              unfold law29_GroupCycles_l10 at hM
              refine wp_seq_k fun K1292 hK1292 => ?_
              refine r_list ?_
              refine wl rfl (ky (v := .bool (decide ((g45044 : Int) < (u21481.1.length : Int)))) hS (y_int hS rfl rfl rfl) rfl rfl fun a hS => ?_)
              refine wpList_nil ?_
              try simp only [Exit.then, Exit.inBlock, ↓reduceIte, Nat.reduceEqDiff]
              refine hK1292 _ _ ?_
              refine wp_seq_k fun K1293 hK1293 => ?_
              rcases bool2 (decide ((g45044 : Int) < (u21481.1.length : Int))) with hb46017 | hb46017
              · replace hM := ct hb46017 hM
                refine c_t hS rfl hb46017 ?_
                refine wp_skip ?_
                try simp only [Exit.then, Exit.inBlock, ↓reduceIte, Nat.reduceEqDiff]
                refine hK1293 _ _ ?_
                refine seq_j (J := fun a w => ∃ (way46500 : (List (List Bool))) (cl46501 : (List Value)) (in46502 : (List OwnT)), St W0 No T 196 [(3, vz21482_3), (4, .int .i64 (u21481.1.length : Int)), (5, v21486), (13, .int .i64 g38220), (103, .int .i64 (u21481.1.length : Int)), (104, .int .i64 g38220), (107, .int .i64 (u21481.1.length : Int)), (108, .int .i64 g45044)] [.own vz21482_3 34 R_RecordD.size clz21482_4, .own v21486 48 R_L4N.size cl46501, .grp in46502] [RowsF R_RecordD clz21482_4 u21481.1, RowsF R_L4N cl46501 (nzip nst_L4 in46502 way46500), InnF nst_L4 in46502 way46500, LvF] a w ∧ law29_GroupCycles_j8 g45044 way46500 = some f2) ?_ ?_
                · skip
                  refine wp_block ?_
                  refine wp_seq_k fun K1304 hK1304 => ?_
                  refine r_list ?_
                  refine wl rfl (ky (v := .int .i64 g45044) hS (y_move hS rfl) rfl rfl fun a hS => ?_)
                  refine wl rfl (ky (v := .int .i64 g45044) hS (y_assign hS rfl) rfl rfl fun a hS => ?_)
                  refine wpList_nil ?_
                  try simp only [Exit.then, Exit.inBlock, ↓reduceIte, Nat.reduceEqDiff]
                  refine hK1304 _ _ ?_
                  refine wp_seq_k fun K1305 hK1305 => ?_
                  refine r_list ?_
                  refine wl rfl (ky (v := .int .i64 (u21481.1.length : Int)) hS (y_move hS rfl) rfl rfl fun a hS => ?_)
                  refine wl rfl (ky (v := .int .i64 0) hS (y_move hS rfl) rfl rfl fun a hS => ?_)
                  refine wpList_nil ?_
                  try simp only [Exit.then, Exit.inBlock, ↓reduceIte, Nat.reduceEqDiff]
                  refine hK1305 _ _ ?_
                  refine wp_block ?_
                  obtain ⟨r3, hl3, hMo3⟩ := bd hM
                  refine wp_lp (fun s : (List (List Bool)) × Int => law29_GroupCycles_l9 u21481 g38220 g45044 s.1 s.2) (fun s a w => ∃ (way46742 : (List (List Bool))) (g46745 : Int) (cl46743 : (List Value)) (in46744 : (List OwnT)), (way46742, g46745) = s ∧ St W0 No T 196 [(3, vz21482_3), (4, .int .i64 (u21481.1.length : Int)), (5, v21486), (13, .int .i64 g38220), (14, .int .i64 g45044), (103, .int .i64 (u21481.1.length : Int)), (104, .int .i64 g38220), (107, .int .i64 (u21481.1.length : Int)), (108, .int .i64 g45044), (111, .int .i64 (u21481.1.length : Int)), (112, .int .i64 g46745)] [.own vz21482_3 34 R_RecordD.size clz21482_4, .own v21486 48 R_L4N.size cl46743, .grp in46744] [RowsF R_RecordD clz21482_4 u21481.1, RowsF R_L4N cl46743 (nzip nst_L4 in46744 way46742), InnF nst_L4 in46744 way46742, LvF] a w) hl3 ⟨way45041, 0, cl45042, in45043, rfl, (hS.meet [0, 1, 2] (by decide) ⟨rfl, rfl, rfl, rfl, rfl, rfl, rfl, rfl, rfl, rfl, rfl, trivial⟩ ⟨rfl, rfl, rfl, trivial⟩ ⟨⟨0, rfl⟩, ⟨1, rfl⟩, ⟨2, rfl⟩, ⟨3, rfl⟩, trivial⟩)⟩ ?_
                  rintro s a w f3 ⟨way46742, g46745, cl46743, in46744, rfl, hS⟩ hM hf3
                  have hM : law29_GroupCycles_l9 u21481 g38220 g45044 way46742 g46745 = some f3 := hM
                  unfold law29_GroupCycles_l9 at hM
                  refine wp_seq_k fun K1314 hK1314 => ?_
                  refine r_list ?_
                  refine wl rfl (ky (v := .bool (decide ((g46745 : Int) < (u21481.1.length : Int)))) hS (y_int hS rfl rfl rfl) rfl rfl fun a hS => ?_)
                  refine wpList_nil ?_
                  try simp only [Exit.then, Exit.inBlock, ↓reduceIte, Nat.reduceEqDiff]
                  refine hK1314 _ _ ?_
                  refine wp_seq_k fun K1315 hK1315 => ?_
                  rcases bool2 (decide ((g46745 : Int) < (u21481.1.length : Int))) with hb46985 | hb46985
                  · replace hM := ct hb46985 hM
                    refine c_t hS rfl hb46985 ?_
                    refine wp_skip ?_
                    try simp only [Exit.then, Exit.inBlock, ↓reduceIte, Nat.reduceEqDiff]
                    refine hK1315 _ _ ?_
                    refine wp_seq_k fun K1316 hK1316 => ?_
                    refine wp_block ?_
                    refine wp_seq_k fun K1317 hK1317 => ?_
                    refine r_list ?_
                    refine wl rfl (ky (v := .int .i64 g46745) hS (y_move hS rfl) rfl rfl fun a hS => ?_)
                    refine wl rfl (ky (v := .int .i64 g46745) hS (y_assign hS rfl) rfl rfl fun a hS => ?_)
                    refine wpList_nil ?_
                    try simp only [Exit.then, Exit.inBlock, ↓reduceIte, Nat.reduceEqDiff]
                    refine hK1317 _ _ ?_
                    refine draws [(31, .any)] hS mixed rfl (fun c a d v w h => by cases d <;> exact h) fun w hQ hS => ?_
                    refine dy 0 (v := v21486) rfl (by kernel_rfl) (by kernel_rfl) (by kernel_rfl) rfl hQ hS (y_move hS rfl) rfl rfl rfl fun a hS => ?_
                    refine dy 1 (v := .int .i64 g45044) rfl (by kernel_rfl) (by kernel_rfl) (by kernel_rfl) rfl hQ hS (y_move hS rfl) rfl rfl rfl fun a hS => ?_
                    obtain ⟨e47104, he47104, hM⟩ := bd hM
                    obtain ⟨q47105, ho47106, hgn47107⟩ := nz_get (N := nst_L4) (hS.get 2 rfl) he47104
                    obtain ⟨b47108, o47109, p47114, cs47111, hr47110, hO47112, hC47113, hy47115⟩ := d_indexo (R := R_L4N) hS sl47 ty48 1 rfl 1 rfl hgn47107
                    obtain ⟨rfl, hon47103⟩ := hr47110
                    refine dy 2 (v := .pointer (some ⟨b47108, o47109, none⟩)) rfl (by kernel_rfl) (by kernel_rfl) (by kernel_rfl) rfl hQ hS (hy47115 rfl rfl) rfl rfl rfl fun a hS => ?_
                    refine dy (l := []) 3 (v := q47105.v) rfl (by kernel_rfl) (by kernel_rfl) (by kernel_rfl) (by kernel_rfl) hQ hS (y_loado (k := 0) hS ty48 1 rfl hO47112 hC47113 rfl eo_nil (us := [q47105.v]) rfl rfl (fun _ => rfl)) rfl rfl rfl fun a hS => ?_
                    refine dy 4 (v := .int .i64 g46745) rfl (by kernel_rfl) (by kernel_rfl) (by kernel_rfl) rfl hQ hS (y_move hS rfl) rfl rfl rfl fun a hS => ?_
                    refine dy 5 (v := v21486) rfl (by kernel_rfl) (by kernel_rfl) (by kernel_rfl) rfl hQ hS (y_move hS rfl) rfl rfl rfl fun a hS => ?_
                    refine dy 6 (v := .int .i64 g45044) rfl (by kernel_rfl) (by kernel_rfl) (by kernel_rfl) rfl hQ hS (y_move hS rfl) rfl rfl rfl fun a hS => ?_
                    obtain ⟨e47117, he47117, hM⟩ := bd hM
                    obtain ⟨q47118, ho47119, hgn47120⟩ := nz_get (N := nst_L4) (hS.get 2 rfl) he47117
                    obtain ⟨b47121, o47122, p47127, cs47124, hr47123, hO47125, hC47126, hy47128⟩ := d_indexo (R := R_L4N) hS sl47 ty48 1 rfl 1 rfl hgn47120
                    obtain ⟨rfl, hon47116⟩ := hr47123
                    refine dy 7 (v := .pointer (some ⟨b47121, o47122, none⟩)) rfl (by kernel_rfl) (by kernel_rfl) (by kernel_rfl) rfl hQ hS (hy47128 rfl rfl) rfl rfl rfl fun a hS => ?_
                    refine dy (l := []) 8 (v := q47118.v) rfl (by kernel_rfl) (by kernel_rfl) (by kernel_rfl) (by kernel_rfl) hQ hS (y_loado (k := 0) hS ty48 1 rfl hO47125 hC47126 rfl eo_nil (us := [q47118.v]) rfl rfl (fun _ => rfl)) rfl rfl rfl fun a hS => ?_
                    refine dy 9 (v := .int .i64 g46745) rfl (by kernel_rfl) (by kernel_rfl) (by kernel_rfl) rfl hQ hS (y_move hS rfl) rfl rfl rfl fun a hS => ?_
                    have hZ := hS.focus (N := nst_L4) 2 rfl 2 rfl he47117 ho47119
                    replace hZ := (show St W0 No T 196 _ (.own q47118.v 4 Rep.bool.size q47118.cl :: _) (RowsF Rep.bool q47118.cl e47117 :: _) _ _ from hZ)
                    obtain ⟨e47129, he47129, hM⟩ := bd hM
                    obtain ⟨b47130, o47131, p47136, cs47133, hr47132, hO47134, hC47135, hy47137⟩ := d_indexo (R := Rep.bool) hZ sl48 ty4 0 rfl 0 rfl he47129
                    obtain rfl := hr47132
                    refine dy 10 (v := .pointer (some ⟨b47130, o47131, none⟩)) rfl (by kernel_rfl) (by kernel_rfl) (by kernel_rfl) rfl hQ hS (hy47137 rfl rfl) rfl rfl rfl fun a hS => ?_
                    have hZ := hS.focus (N := nst_L4) 2 rfl 2 rfl he47117 ho47119
                    replace hZ := (show St W0 No T 196 _ (.own q47118.v 4 Rep.bool.size q47118.cl :: _) (RowsF Rep.bool q47118.cl e47117 :: _) _ _ from hZ)
                    refine dy (l := []) 11 (v := .bool e47129) rfl (by kernel_rfl) (by kernel_rfl) (by kernel_rfl) (by kernel_rfl) hQ hS (y_loado (k := 0) hZ ty4 0 rfl hO47134 hC47135 rfl eo_nil (us := [.bool e47129]) rfl rfl (fun _ => rfl)) rfl rfl rfl fun a hS => ?_
                    refine dy 12 (v := .bool e47129) rfl (by kernel_rfl) (by kernel_rfl) (by kernel_rfl) rfl hQ hS (y_move hS rfl) rfl rfl rfl fun a hS => ?_
                    rcases bool2 (e47129) with hb47138 | hb47138
                    · replace hM := ct hb47138 hM
                      refine dyn 13 rfl (by kernel_rfl) (by kernel_rfl) (by kernel_rfl) hQ hS rfl rfl rfl hb47138 rfl rfl fun a hS => ?_
                      refine dyn 14 rfl (by kernel_rfl) (by kernel_rfl) (by kernel_rfl) hQ hS rfl rfl rfl hb47138 rfl rfl fun a hS => ?_
                      refine dyn 15 rfl (by kernel_rfl) (by kernel_rfl) (by kernel_rfl) hQ hS rfl rfl rfl hb47138 rfl rfl fun a hS => ?_
                      refine dyn 16 rfl (by kernel_rfl) (by kernel_rfl) (by kernel_rfl) hQ hS rfl rfl rfl hb47138 rfl rfl fun a hS => ?_
                      refine dyn 17 rfl (by kernel_rfl) (by kernel_rfl) (by kernel_rfl) hQ hS rfl rfl rfl hb47138 rfl rfl fun a hS => ?_
                      refine dyn 18 rfl (by kernel_rfl) (by kernel_rfl) (by kernel_rfl) hQ hS rfl rfl rfl hb47138 rfl rfl fun a hS => ?_
                      refine dyn 19 rfl (by kernel_rfl) (by kernel_rfl) (by kernel_rfl) hQ hS rfl rfl rfl hb47138 rfl rfl fun a hS => ?_
                      refine dyn 20 rfl (by kernel_rfl) (by kernel_rfl) (by kernel_rfl) hQ hS rfl rfl rfl hb47138 rfl rfl fun a hS => ?_
                      refine dynu 21 rfl (by kernel_rfl) (by kernel_rfl) (by kernel_rfl) hQ hS rfl rfl rfl rfl rfl fun a hS => ?_
                      refine dynu 22 rfl (by kernel_rfl) (by kernel_rfl) (by kernel_rfl) hQ hS rfl rfl rfl rfl rfl fun a hS => ?_
                      refine dynu 23 rfl (by kernel_rfl) (by kernel_rfl) (by kernel_rfl) hQ hS rfl rfl rfl rfl rfl fun a hS => ?_
                      refine dynu 24 rfl (by kernel_rfl) (by kernel_rfl) (by kernel_rfl) hQ hS rfl rfl rfl rfl rfl fun a hS => ?_
                      refine dynu 25 rfl (by kernel_rfl) (by kernel_rfl) (by kernel_rfl) hQ hS rfl rfl rfl rfl rfl fun a hS => ?_
                      refine dynu 26 rfl (by kernel_rfl) (by kernel_rfl) (by kernel_rfl) hQ hS rfl rfl rfl rfl rfl fun a hS => ?_
                      refine dynu 27 rfl (by kernel_rfl) (by kernel_rfl) (by kernel_rfl) hQ hS rfl rfl rfl rfl rfl fun a hS => ?_
                      refine dyn 28 rfl (by kernel_rfl) (by kernel_rfl) (by kernel_rfl) hQ hS rfl rfl rfl hb47138 rfl rfl fun a hS => ?_
                      refine dy 29 (v := .bool true) rfl (by kernel_rfl) (by kernel_rfl) (by kernel_rfl) rfl hQ hS (y_pickt hS rfl hb47138 rfl) rfl rfl rfl fun a hS => ?_
                      have hZ := hS.focus (N := nst_L4) 2 rfl 2 rfl he47104 ho47106
                      replace hZ := (show St W0 No T 196 _ (.own q47105.v 4 Rep.bool.size q47105.cl :: _) (RowsF Rep.bool q47105.cl e47104 :: _) _ _ from hZ)
                      obtain ⟨e47139, he47139, hM⟩ := bd hM
                      obtain ⟨b47140, o47141, p47146, cs47143, hr47142, hO47144, hC47145, hy47147⟩ := d_indexo (R := Rep.bool) hZ sl48 ty4 0 rfl 0 rfl he47139
                      obtain rfl := hr47142
                      refine dy 30 (v := .pointer (some ⟨b47140, o47141, none⟩)) rfl (by kernel_rfl) (by kernel_rfl) (by kernel_rfl) rfl hQ hS (hy47147 rfl rfl) rfl rfl rfl fun a hS => ?_
                      replace hS := (show St W0 No T 196 _ [.own q47105.v 4 Rep.bool.size q47105.cl, .own vz21482_3 34 R_RecordD.size clz21482_4, .own v21486 48 R_L4N.size cl46743, .grp (in46744.set (Int.toNat g45044) nst_L4.no)] (RowsF Rep.bool q47105.cl e47104 :: InnF nst_L4 (in46744.set (Int.toNat g45044) nst_L4.no) (way46742.set (Int.toNat g45044) (nst_L4.put [] e47104)) :: _) _ _ from hS.focus (N := nst_L4) 2 rfl 2 rfl he47104 ho47106)
                      refine wpE_one (i := 31) rfl (by kernel_rfl) rfl (k_storeo (R := Rep.bool) (k := 0) (cs := [.bool e47139]) (us := [.bool true]) (x' := true) hS rfl rfl rfl ty4 0 rfl 0 rfl hO47144 hC47145 he47139 rfl rfl rfl rfl fun cl47149 w hk hS => ⟨stM rfl hk etAny, ?_⟩)
                      replace hS := hS.fact (RowsF R_L4N cl46743 ((nzip nst_L4 in46744 way46742).set (Int.toNat g45044) (nst_L4.nf q47105.v e47104))) (by rw [set_getI hgn47107]; exact hS.get 4 rfl)
                      obtain ⟨in47150, hS⟩ := St.relay (N := nst_L4) (inn := in46744) (xs := way46742) (x := e47104) (i := Int.toNat g45044) hS 0 rfl 3 rfl (by decide) 3 rfl 1 rfl 0 rfl ho47106
                      replace hS := (show St W0 No T 196 _ [.own vz21482_3 34 R_RecordD.size clz21482_4, .own v21486 48 R_L4N.size cl46743, .grp in47150] (RowsF R_L4N cl46743 (nzip nst_L4 in47150 (way46742.set (Int.toNat g45044) (e47104.set (Int.toNat g46745) true))) :: InnF nst_L4 in47150 (way46742.set (Int.toNat g45044) (e47104.set (Int.toNat g46745) true)) :: _) _ _ from hS)
                      refine wpE_done (by kernel_rfl) ?_ _
                      try simp only [Exit.then, Exit.inBlock, ↓reduceIte, Nat.reduceEqDiff]
                      refine hK1316 _ _ ?_
                      refine r_list ?_
                      refine wl rfl (ky (v := .int .i64 (IntKind.i64.wrap (g46745 + 1))) hS (y_int hS rfl rfl rfl) rfl rfl fun a hS => ?_)
                      refine wl rfl (ky (v := .int .i64 (IntKind.i64.wrap (g46745 + 1))) hS (y_move hS rfl) rfl rfl fun a hS => ?_)
                      refine wpList_nil ?_
                      try simp only [Exit.then, Exit.inBlock, ↓reduceIte, Nat.reduceEqDiff]
                      exact ⟨((way46742.set (Int.toNat g45044) (e47104.set (Int.toNat g46745) true)), IntKind.i64.wrap (g46745 + 1)), (Option.some.inj hM).symm, (way46742.set (Int.toNat g45044) (e47104.set (Int.toNat g46745) true)), (IntKind.i64.wrap (g46745 + 1)), cl46743, in47150, rfl, (hS.meet [0, 1, 2] (by decide) ⟨rfl, rfl, rfl, rfl, rfl, rfl, rfl, rfl, rfl, rfl, rfl, trivial⟩ ⟨rfl, rfl, rfl, trivial⟩ ⟨⟨6, rfl⟩, ⟨0, rfl⟩, ⟨1, rfl⟩, ⟨9, rfl⟩, trivial⟩)⟩
                    · replace hM := cf hb47138 hM
                      refine dyg 13 (v := v21486) rfl (by kernel_rfl) (by kernel_rfl) (by kernel_rfl) rfl hQ hS (y_move hS rfl) rfl rfl rfl hb47138 rfl rfl fun a hS => ?_
                      refine dyg 14 (v := .int .i64 g45044) rfl (by kernel_rfl) (by kernel_rfl) (by kernel_rfl) rfl hQ hS (y_move hS rfl) rfl rfl rfl hb47138 rfl rfl fun a hS => ?_
                      obtain ⟨e47152, he47152, hM⟩ := bd hM
                      obtain ⟨q47153, ho47154, hgn47155⟩ := nz_get (N := nst_L4) (hS.get 2 rfl) he47152
                      obtain ⟨b47156, o47157, p47162, cs47159, hr47158, hO47160, hC47161, hy47163⟩ := d_indexo (R := R_L4N) hS sl47 ty48 1 rfl 1 rfl hgn47155
                      obtain ⟨rfl, hon47151⟩ := hr47158
                      refine dyg 15 (v := .pointer (some ⟨b47156, o47157, none⟩)) rfl (by kernel_rfl) (by kernel_rfl) (by kernel_rfl) rfl hQ hS (hy47163 rfl rfl) rfl rfl rfl hb47138 rfl rfl fun a hS => ?_
                      refine dyg (l := []) 16 (v := q47153.v) rfl (by kernel_rfl) (by kernel_rfl) (by kernel_rfl) (by kernel_rfl) hQ hS (y_loado (k := 0) hS ty48 1 rfl hO47160 hC47161 rfl eo_nil (us := [q47153.v]) rfl rfl (fun _ => rfl)) rfl rfl rfl hb47138 rfl rfl fun a hS => ?_
                      refine dyg 17 (v := .int .i64 g38220) rfl (by kernel_rfl) (by kernel_rfl) (by kernel_rfl) rfl hQ hS (y_move hS rfl) rfl rfl rfl hb47138 rfl rfl fun a hS => ?_
                      have hZ := hS.focus (N := nst_L4) 2 rfl 2 rfl he47152 ho47154
                      replace hZ := (show St W0 No T 196 _ (.own q47153.v 4 Rep.bool.size q47153.cl :: _) (RowsF Rep.bool q47153.cl e47152 :: _) _ _ from hZ)
                      obtain ⟨e47164, he47164, hM⟩ := bd hM
                      obtain ⟨b47165, o47166, p47171, cs47168, hr47167, hO47169, hC47170, hy47172⟩ := d_indexo (R := Rep.bool) hZ sl48 ty4 0 rfl 0 rfl he47164
                      obtain rfl := hr47167
                      refine dyg 18 (v := .pointer (some ⟨b47165, o47166, none⟩)) rfl (by kernel_rfl) (by kernel_rfl) (by kernel_rfl) rfl hQ hS (hy47172 rfl rfl) rfl rfl rfl hb47138 rfl rfl fun a hS => ?_
                      have hZ := hS.focus (N := nst_L4) 2 rfl 2 rfl he47152 ho47154
                      replace hZ := (show St W0 No T 196 _ (.own q47153.v 4 Rep.bool.size q47153.cl :: _) (RowsF Rep.bool q47153.cl e47152 :: _) _ _ from hZ)
                      refine dyg (l := []) 19 (v := .bool e47164) rfl (by kernel_rfl) (by kernel_rfl) (by kernel_rfl) (by kernel_rfl) hQ hS (y_loado (k := 0) hZ ty4 0 rfl hO47169 hC47170 rfl eo_nil (us := [.bool e47164]) rfl rfl (fun _ => rfl)) rfl rfl rfl hb47138 rfl rfl fun a hS => ?_
                      refine dyg 20 (v := .bool e47164) rfl (by kernel_rfl) (by kernel_rfl) (by kernel_rfl) rfl hQ hS (y_move hS rfl) rfl rfl rfl hb47138 rfl rfl fun a hS => ?_
                      rcases bool2 (e47164) with hb47173 | hb47173
                      · replace hM := ct hb47173 hM
                        refine dyg 21 (v := v21486) rfl (by kernel_rfl) (by kernel_rfl) (by kernel_rfl) rfl hQ hS (y_move hS rfl) rfl rfl rfl hb47173 rfl rfl fun a hS => ?_
                        refine dyg 22 (v := .int .i64 g38220) rfl (by kernel_rfl) (by kernel_rfl) (by kernel_rfl) rfl hQ hS (y_move hS rfl) rfl rfl rfl hb47173 rfl rfl fun a hS => ?_
                        obtain ⟨e47175, he47175, hM⟩ := bd hM
                        obtain ⟨q47176, ho47177, hgn47178⟩ := nz_get (N := nst_L4) (hS.get 2 rfl) he47175
                        obtain ⟨b47179, o47180, p47185, cs47182, hr47181, hO47183, hC47184, hy47186⟩ := d_indexo (R := R_L4N) hS sl47 ty48 1 rfl 1 rfl hgn47178
                        obtain ⟨rfl, hon47174⟩ := hr47181
                        refine dyg 23 (v := .pointer (some ⟨b47179, o47180, none⟩)) rfl (by kernel_rfl) (by kernel_rfl) (by kernel_rfl) rfl hQ hS (hy47186 rfl rfl) rfl rfl rfl hb47173 rfl rfl fun a hS => ?_
                        refine dyg (l := []) 24 (v := q47176.v) rfl (by kernel_rfl) (by kernel_rfl) (by kernel_rfl) (by kernel_rfl) hQ hS (y_loado (k := 0) hS ty48 1 rfl hO47183 hC47184 rfl eo_nil (us := [q47176.v]) rfl rfl (fun _ => rfl)) rfl rfl rfl hb47173 rfl rfl fun a hS => ?_
                        refine dyg 25 (v := .int .i64 g46745) rfl (by kernel_rfl) (by kernel_rfl) (by kernel_rfl) rfl hQ hS (y_move hS rfl) rfl rfl rfl hb47173 rfl rfl fun a hS => ?_
                        have hZ := hS.focus (N := nst_L4) 2 rfl 2 rfl he47175 ho47177
                        replace hZ := (show St W0 No T 196 _ (.own q47176.v 4 Rep.bool.size q47176.cl :: _) (RowsF Rep.bool q47176.cl e47175 :: _) _ _ from hZ)
                        obtain ⟨e47187, he47187, hM⟩ := bd hM
                        obtain ⟨b47188, o47189, p47194, cs47191, hr47190, hO47192, hC47193, hy47195⟩ := d_indexo (R := Rep.bool) hZ sl48 ty4 0 rfl 0 rfl he47187
                        obtain rfl := hr47190
                        refine dyg 26 (v := .pointer (some ⟨b47188, o47189, none⟩)) rfl (by kernel_rfl) (by kernel_rfl) (by kernel_rfl) rfl hQ hS (hy47195 rfl rfl) rfl rfl rfl hb47173 rfl rfl fun a hS => ?_
                        have hZ := hS.focus (N := nst_L4) 2 rfl 2 rfl he47175 ho47177
                        replace hZ := (show St W0 No T 196 _ (.own q47176.v 4 Rep.bool.size q47176.cl :: _) (RowsF Rep.bool q47176.cl e47175 :: _) _ _ from hZ)
                        refine dyg (l := []) 27 (v := .bool e47187) rfl (by kernel_rfl) (by kernel_rfl) (by kernel_rfl) (by kernel_rfl) hQ hS (y_loado (k := 0) hZ ty4 0 rfl hO47192 hC47193 rfl eo_nil (us := [.bool e47187]) rfl rfl (fun _ => rfl)) rfl rfl rfl hb47173 rfl rfl fun a hS => ?_
                        refine dyg 28 (v := .bool e47187) rfl (by kernel_rfl) (by kernel_rfl) (by kernel_rfl) rfl hQ hS (y_pickt hS rfl hb47173 rfl) rfl rfl rfl hb47138 rfl rfl fun a hS => ?_
                        refine dy 29 (v := .bool e47187) rfl (by kernel_rfl) (by kernel_rfl) (by kernel_rfl) rfl hQ hS (y_pickf hS rfl hb47138 rfl) rfl rfl rfl fun a hS => ?_
                        have hZ := hS.focus (N := nst_L4) 2 rfl 2 rfl he47104 ho47106
                        replace hZ := (show St W0 No T 196 _ (.own q47105.v 4 Rep.bool.size q47105.cl :: _) (RowsF Rep.bool q47105.cl e47104 :: _) _ _ from hZ)
                        obtain ⟨e47196, he47196, hM⟩ := bd hM
                        obtain ⟨b47197, o47198, p47203, cs47200, hr47199, hO47201, hC47202, hy47204⟩ := d_indexo (R := Rep.bool) hZ sl48 ty4 0 rfl 0 rfl he47196
                        obtain rfl := hr47199
                        refine dy 30 (v := .pointer (some ⟨b47197, o47198, none⟩)) rfl (by kernel_rfl) (by kernel_rfl) (by kernel_rfl) rfl hQ hS (hy47204 rfl rfl) rfl rfl rfl fun a hS => ?_
                        replace hS := (show St W0 No T 196 _ [.own q47105.v 4 Rep.bool.size q47105.cl, .own vz21482_3 34 R_RecordD.size clz21482_4, .own v21486 48 R_L4N.size cl46743, .grp (in46744.set (Int.toNat g45044) nst_L4.no)] (RowsF Rep.bool q47105.cl e47104 :: InnF nst_L4 (in46744.set (Int.toNat g45044) nst_L4.no) (way46742.set (Int.toNat g45044) (nst_L4.put [] e47104)) :: _) _ _ from hS.focus (N := nst_L4) 2 rfl 2 rfl he47104 ho47106)
                        refine wpE_one (i := 31) rfl (by kernel_rfl) rfl (k_storeo (R := Rep.bool) (k := 0) (cs := [.bool e47196]) (us := [.bool e47187]) (x' := e47187) hS rfl rfl rfl ty4 0 rfl 0 rfl hO47201 hC47202 he47196 rfl rfl rfl rfl fun cl47206 w hk hS => ⟨stM rfl hk etAny, ?_⟩)
                        replace hS := hS.fact (RowsF R_L4N cl46743 ((nzip nst_L4 in46744 way46742).set (Int.toNat g45044) (nst_L4.nf q47105.v e47104))) (by rw [set_getI hgn47107]; exact hS.get 4 rfl)
                        obtain ⟨in47207, hS⟩ := St.relay (N := nst_L4) (inn := in46744) (xs := way46742) (x := e47104) (i := Int.toNat g45044) hS 0 rfl 3 rfl (by decide) 3 rfl 1 rfl 0 rfl ho47106
                        replace hS := (show St W0 No T 196 _ [.own vz21482_3 34 R_RecordD.size clz21482_4, .own v21486 48 R_L4N.size cl46743, .grp in47207] (RowsF R_L4N cl46743 (nzip nst_L4 in47207 (way46742.set (Int.toNat g45044) (e47104.set (Int.toNat g46745) e47187))) :: InnF nst_L4 in47207 (way46742.set (Int.toNat g45044) (e47104.set (Int.toNat g46745) e47187)) :: _) _ _ from hS)
                        refine wpE_done (by kernel_rfl) ?_ _
                        try simp only [Exit.then, Exit.inBlock, ↓reduceIte, Nat.reduceEqDiff]
                        refine hK1316 _ _ ?_
                        refine r_list ?_
                        refine wl rfl (ky (v := .int .i64 (IntKind.i64.wrap (g46745 + 1))) hS (y_int hS rfl rfl rfl) rfl rfl fun a hS => ?_)
                        refine wl rfl (ky (v := .int .i64 (IntKind.i64.wrap (g46745 + 1))) hS (y_move hS rfl) rfl rfl fun a hS => ?_)
                        refine wpList_nil ?_
                        try simp only [Exit.then, Exit.inBlock, ↓reduceIte, Nat.reduceEqDiff]
                        exact ⟨((way46742.set (Int.toNat g45044) (e47104.set (Int.toNat g46745) e47187)), IntKind.i64.wrap (g46745 + 1)), (Option.some.inj hM).symm, (way46742.set (Int.toNat g45044) (e47104.set (Int.toNat g46745) e47187)), (IntKind.i64.wrap (g46745 + 1)), cl46743, in47207, rfl, (hS.meet [0, 1, 2] (by decide) ⟨rfl, rfl, rfl, rfl, rfl, rfl, rfl, rfl, rfl, rfl, rfl, trivial⟩ ⟨rfl, rfl, rfl, trivial⟩ ⟨⟨6, rfl⟩, ⟨0, rfl⟩, ⟨1, rfl⟩, ⟨9, rfl⟩, trivial⟩)⟩
                      · replace hM := cf hb47173 hM
                        refine dyn 21 rfl (by kernel_rfl) (by kernel_rfl) (by kernel_rfl) hQ hS rfl rfl rfl hb47173 rfl rfl fun a hS => ?_
                        refine dyn 22 rfl (by kernel_rfl) (by kernel_rfl) (by kernel_rfl) hQ hS rfl rfl rfl hb47173 rfl rfl fun a hS => ?_
                        refine dyn 23 rfl (by kernel_rfl) (by kernel_rfl) (by kernel_rfl) hQ hS rfl rfl rfl hb47173 rfl rfl fun a hS => ?_
                        refine dyn 24 rfl (by kernel_rfl) (by kernel_rfl) (by kernel_rfl) hQ hS rfl rfl rfl hb47173 rfl rfl fun a hS => ?_
                        refine dyn 25 rfl (by kernel_rfl) (by kernel_rfl) (by kernel_rfl) hQ hS rfl rfl rfl hb47173 rfl rfl fun a hS => ?_
                        refine dyn 26 rfl (by kernel_rfl) (by kernel_rfl) (by kernel_rfl) hQ hS rfl rfl rfl hb47173 rfl rfl fun a hS => ?_
                        refine dyn 27 rfl (by kernel_rfl) (by kernel_rfl) (by kernel_rfl) hQ hS rfl rfl rfl hb47173 rfl rfl fun a hS => ?_
                        refine dyg 28 (v := .bool false) rfl (by kernel_rfl) (by kernel_rfl) (by kernel_rfl) rfl hQ hS (y_pickf hS rfl hb47173 rfl) rfl rfl rfl hb47138 rfl rfl fun a hS => ?_
                        refine dy 29 (v := .bool false) rfl (by kernel_rfl) (by kernel_rfl) (by kernel_rfl) rfl hQ hS (y_pickf hS rfl hb47138 rfl) rfl rfl rfl fun a hS => ?_
                        have hZ := hS.focus (N := nst_L4) 2 rfl 2 rfl he47104 ho47106
                        replace hZ := (show St W0 No T 196 _ (.own q47105.v 4 Rep.bool.size q47105.cl :: _) (RowsF Rep.bool q47105.cl e47104 :: _) _ _ from hZ)
                        obtain ⟨e47208, he47208, hM⟩ := bd hM
                        obtain ⟨b47209, o47210, p47215, cs47212, hr47211, hO47213, hC47214, hy47216⟩ := d_indexo (R := Rep.bool) hZ sl48 ty4 0 rfl 0 rfl he47208
                        obtain rfl := hr47211
                        refine dy 30 (v := .pointer (some ⟨b47209, o47210, none⟩)) rfl (by kernel_rfl) (by kernel_rfl) (by kernel_rfl) rfl hQ hS (hy47216 rfl rfl) rfl rfl rfl fun a hS => ?_
                        replace hS := (show St W0 No T 196 _ [.own q47105.v 4 Rep.bool.size q47105.cl, .own vz21482_3 34 R_RecordD.size clz21482_4, .own v21486 48 R_L4N.size cl46743, .grp (in46744.set (Int.toNat g45044) nst_L4.no)] (RowsF Rep.bool q47105.cl e47104 :: InnF nst_L4 (in46744.set (Int.toNat g45044) nst_L4.no) (way46742.set (Int.toNat g45044) (nst_L4.put [] e47104)) :: _) _ _ from hS.focus (N := nst_L4) 2 rfl 2 rfl he47104 ho47106)
                        refine wpE_one (i := 31) rfl (by kernel_rfl) rfl (k_storeo (R := Rep.bool) (k := 0) (cs := [.bool e47208]) (us := [.bool false]) (x' := false) hS rfl rfl rfl ty4 0 rfl 0 rfl hO47213 hC47214 he47208 rfl rfl rfl rfl fun cl47218 w hk hS => ⟨stM rfl hk etAny, ?_⟩)
                        replace hS := hS.fact (RowsF R_L4N cl46743 ((nzip nst_L4 in46744 way46742).set (Int.toNat g45044) (nst_L4.nf q47105.v e47104))) (by rw [set_getI hgn47107]; exact hS.get 4 rfl)
                        obtain ⟨in47219, hS⟩ := St.relay (N := nst_L4) (inn := in46744) (xs := way46742) (x := e47104) (i := Int.toNat g45044) hS 0 rfl 3 rfl (by decide) 3 rfl 1 rfl 0 rfl ho47106
                        replace hS := (show St W0 No T 196 _ [.own vz21482_3 34 R_RecordD.size clz21482_4, .own v21486 48 R_L4N.size cl46743, .grp in47219] (RowsF R_L4N cl46743 (nzip nst_L4 in47219 (way46742.set (Int.toNat g45044) (e47104.set (Int.toNat g46745) false))) :: InnF nst_L4 in47219 (way46742.set (Int.toNat g45044) (e47104.set (Int.toNat g46745) false)) :: _) _ _ from hS)
                        refine wpE_done (by kernel_rfl) ?_ _
                        try simp only [Exit.then, Exit.inBlock, ↓reduceIte, Nat.reduceEqDiff]
                        refine hK1316 _ _ ?_
                        refine r_list ?_
                        refine wl rfl (ky (v := .int .i64 (IntKind.i64.wrap (g46745 + 1))) hS (y_int hS rfl rfl rfl) rfl rfl fun a hS => ?_)
                        refine wl rfl (ky (v := .int .i64 (IntKind.i64.wrap (g46745 + 1))) hS (y_move hS rfl) rfl rfl fun a hS => ?_)
                        refine wpList_nil ?_
                        try simp only [Exit.then, Exit.inBlock, ↓reduceIte, Nat.reduceEqDiff]
                        exact ⟨((way46742.set (Int.toNat g45044) (e47104.set (Int.toNat g46745) false)), IntKind.i64.wrap (g46745 + 1)), (Option.some.inj hM).symm, (way46742.set (Int.toNat g45044) (e47104.set (Int.toNat g46745) false)), (IntKind.i64.wrap (g46745 + 1)), cl46743, in47219, rfl, (hS.meet [0, 1, 2] (by decide) ⟨rfl, rfl, rfl, rfl, rfl, rfl, rfl, rfl, rfl, rfl, rfl, trivial⟩ ⟨rfl, rfl, rfl, trivial⟩ ⟨⟨6, rfl⟩, ⟨0, rfl⟩, ⟨1, rfl⟩, ⟨9, rfl⟩, trivial⟩)⟩
                  · replace hM := cf hb46985 hM
                    refine c_f hS rfl hb46985 ?_
                    refine wp_exit ?_
                    try simp only [Exit.then, Exit.inBlock, ↓reduceIte, Nat.reduceEqDiff]
                    injection hM with hM
                    subst hM
                    have hr := hf3 _ rfl
                    subst hr
                    have hM : law29_GroupCycles_j8 g45044 way46742 = some f2 := hMo3
                    exact ⟨way46742, cl46743, in46744, (hS.meet [0, 1, 2] (by decide) ⟨rfl, rfl, rfl, rfl, rfl, rfl, rfl, rfl, trivial⟩ ⟨rfl, rfl, rfl, trivial⟩ ⟨⟨0, rfl⟩, ⟨1, rfl⟩, ⟨2, rfl⟩, ⟨3, rfl⟩, trivial⟩), hM⟩
                · rintro a w ⟨way46500, cl46501, in46502, hS, hM⟩
                  unfold law29_GroupCycles_j8 at hM
                  refine r_list ?_
                  refine wl rfl (ky (v := .int .i64 (IntKind.i64.wrap (g45044 + 1))) hS (y_int hS rfl rfl rfl) rfl rfl fun a hS => ?_)
                  refine wl rfl (ky (v := .int .i64 (IntKind.i64.wrap (g45044 + 1))) hS (y_move hS rfl) rfl rfl fun a hS => ?_)
                  refine wpList_nil ?_
                  try simp only [Exit.then, Exit.inBlock, ↓reduceIte, Nat.reduceEqDiff]
                  exact ⟨(way46500, IntKind.i64.wrap (g45044 + 1)), (Option.some.inj hM).symm, way46500, (IntKind.i64.wrap (g45044 + 1)), cl46501, in46502, rfl, (hS.meet [0, 1, 2] (by decide) ⟨rfl, rfl, rfl, rfl, rfl, rfl, rfl, rfl, trivial⟩ ⟨rfl, rfl, rfl, trivial⟩ ⟨⟨0, rfl⟩, ⟨1, rfl⟩, ⟨2, rfl⟩, ⟨3, rfl⟩, trivial⟩)⟩
              · replace hM := cf hb46017 hM
                refine c_f hS rfl hb46017 ?_
                refine wp_exit ?_
                try simp only [Exit.then, Exit.inBlock, ↓reduceIte, Nat.reduceEqDiff]
                injection hM with hM
                subst hM
                have hr := hf2 _ rfl
                subst hr
                have hM : law29_GroupCycles_j7 g38220 way45041 = some f1 := hMo2
                exact ⟨way45041, cl45042, in45043, (hS.meet [0, 1, 2] (by decide) ⟨rfl, rfl, rfl, rfl, rfl, trivial⟩ ⟨rfl, rfl, rfl, trivial⟩ ⟨⟨0, rfl⟩, ⟨1, rfl⟩, ⟨2, rfl⟩, ⟨3, rfl⟩, trivial⟩), hM⟩
            · rintro a w ⟨way44068, cl44069, in44070, hS, hM⟩
              unfold law29_GroupCycles_j7 at hM
              refine r_list ?_
              refine wl rfl (ky (v := .int .i64 (IntKind.i64.wrap (g38220 + 1))) hS (y_int hS rfl rfl rfl) rfl rfl fun a hS => ?_)
              refine wl rfl (ky (v := .int .i64 (IntKind.i64.wrap (g38220 + 1))) hS (y_move hS rfl) rfl rfl fun a hS => ?_)
              refine wpList_nil ?_
              try simp only [Exit.then, Exit.inBlock, ↓reduceIte, Nat.reduceEqDiff]
              exact ⟨(way44068, IntKind.i64.wrap (g38220 + 1)), (Option.some.inj hM).symm, way44068, (IntKind.i64.wrap (g38220 + 1)), cl44069, in44070, rfl, (hS.meet [0, 1, 2] (by decide) ⟨rfl, rfl, rfl, rfl, rfl, trivial⟩ ⟨rfl, rfl, rfl, trivial⟩ ⟨⟨0, rfl⟩, ⟨1, rfl⟩, ⟨2, rfl⟩, ⟨3, rfl⟩, trivial⟩)⟩
          · replace hM := cf hb42121 hM
            refine c_f hS rfl hb42121 ?_
            refine wp_exit ?_
            try simp only [Exit.then, Exit.inBlock, ↓reduceIte, Nat.reduceEqDiff]
            injection hM with hM
            subst hM
            have hr := hf1 _ rfl
            subst hr
            have hM : law29_GroupCycles_j6 u21481 way38217 = some y := hMo1
            exact ⟨way38217, cl38218, in38219, (hS.meet [0, 1, 2] (by decide) ⟨rfl, rfl, trivial⟩ ⟨rfl, rfl, rfl, trivial⟩ ⟨⟨0, rfl⟩, ⟨1, rfl⟩, ⟨2, rfl⟩, ⟨3, rfl⟩, trivial⟩), hM⟩
        · rintro a w ⟨way30918, cl30919, in30920, hS, hM⟩
          unfold law29_GroupCycles_j6 at hM
          refine seq_j (J := fun a w => St W0 No T 196 [] [] [LvF] a w ∧ law29_GroupCycles_j1 = some y) ?_ ?_
          · skip
            refine wp_seq_k fun K919 hK919 => ?_
            refine r_list ?_
            refine wl rfl (ky (v := vz21482_3) hS (y_move hS rfl) rfl rfl fun a hS => ?_)
            refine wl rfl (ky (v := .int .i64 (u21481.1.length : Int)) hS (y_leno (R := R_RecordD) (xs := u21481.1) hS sl28 rfl 0 rfl 0 rfl) rfl rfl fun a hS => ?_)
            refine wl rfl (ky (v := .int .i64 0) hS (y_move hS rfl) rfl rfl fun a hS => ?_)
            refine wpList_nil ?_
            try simp only [Exit.then, Exit.inBlock, ↓reduceIte, Nat.reduceEqDiff]
            refine hK919 _ _ ?_
            refine wp_block ?_
            obtain ⟨r1, hl1, hMo1⟩ := bd hM
            refine wp_lp (fun s : Int => law29_GroupCycles_l5 u21481 way30918 s) (fun s a w => ∃ (g32870 : Int), g32870 = s ∧ St W0 No T 196 [(3, vz21482_3), (5, v21486), (149, vz21482_3), (150, .int .i64 (u21481.1.length : Int)), (151, .int .i64 g32870)] [.own vz21482_3 34 R_RecordD.size clz21482_4, .own v21486 48 R_L4N.size cl30919, .grp in30920] [RowsF R_RecordD clz21482_4 u21481.1, RowsF R_L4N cl30919 (nzip nst_L4 in30920 way30918), InnF nst_L4 in30920 way30918, LvF] a w) hl1 ⟨0, rfl, (hS.meet [0, 1, 2] (by decide) ⟨rfl, rfl, rfl, rfl, rfl, trivial⟩ ⟨rfl, rfl, rfl, trivial⟩ ⟨⟨0, rfl⟩, ⟨1, rfl⟩, ⟨2, rfl⟩, ⟨3, rfl⟩, trivial⟩)⟩ ?_
            rintro s a w f1 ⟨g32870, rfl, hS⟩ hM hf1
            have hM : law29_GroupCycles_l5 u21481 way30918 g32870 = some f1 := hM
            unfold law29_GroupCycles_l5 at hM
            refine wp_seq_k fun K976 hK976 => ?_
            refine r_list ?_
            refine wl rfl (ky (v := .bool (decide ((g32870 : Int) < (u21481.1.length : Int)))) hS (y_int hS rfl rfl rfl) rfl rfl fun a hS => ?_)
            refine wpList_nil ?_
            try simp only [Exit.then, Exit.inBlock, ↓reduceIte, Nat.reduceEqDiff]
            refine hK976 _ _ ?_
            refine wp_seq_k fun K977 hK977 => ?_
            rcases bool2 (decide ((g32870 : Int) < (u21481.1.length : Int))) with hb33521 | hb33521
            · replace hM := ct hb33521 hM
              refine c_t hS rfl hb33521 ?_
              refine wp_skip ?_
              try simp only [Exit.then, Exit.inBlock, ↓reduceIte, Nat.reduceEqDiff]
              refine hK977 _ _ ?_
              refine seq_j (J := fun a w => St W0 No T 196 [(3, vz21482_3), (5, v21486), (149, vz21482_3), (150, .int .i64 (u21481.1.length : Int)), (151, .int .i64 g32870)] [.own vz21482_3 34 R_RecordD.size clz21482_4, .own v21486 48 R_L4N.size cl30919, .grp in30920] [RowsF R_RecordD clz21482_4 u21481.1, RowsF R_L4N cl30919 (nzip nst_L4 in30920 way30918), InnF nst_L4 in30920 way30918, LvF] a w ∧ law29_GroupCycles_j2 g32870 = some f1) ?_ ?_
              · skip
                refine wp_block ?_
                refine wp_seq_k fun K991 hK991 => ?_
                refine r_list ?_
                refine wl rfl (ky (v := .int .i64 g32870) hS (y_move hS rfl) rfl rfl fun a hS => ?_)
                obtain ⟨e33846, he33846, hM⟩ := bd hM
                refine wl rfl (k_indexo (R := R_RecordD) hS sl28 ty34 rfl rfl 0 rfl 0 rfl he33846 rfl fun b33848 o33849 p33854 cs33851 hr33850 hO33852 hC33853 a hS => ?_)
                obtain ⟨v33847, rfl, hv33847⟩ := hr33850
                replace hS := hS.fact (SlF R_KeyD v33847 e33846.Reads) hv33847
                refine wl rfl (ky (v := .agg #[.int .i64 e33846.Key.Kind, .string e33846.Key.Text, .string e33846.Value, v33847, .int .i64 e33846.Changed, .int .i64 e33846.Verified, .int .i64 e33846.Cost, .bool e33846.Dirty]) hS (y_loado (k := 0) hS ty34 0 rfl hO33852 hC33853 rfl id (us := [.int .i64 e33846.Key.Kind, .string e33846.Key.Text, .string e33846.Value, v33847, .int .i64 e33846.Changed, .int .i64 e33846.Verified, .int .i64 e33846.Cost, .bool e33846.Dirty]) rfl rfl (fun h => by cases h)) rfl rfl fun a hS => ?_)
                refine wl rfl (k_alloc hS ze34 rfl fun b33855 hnb33857 a w hk hS => ?_)
                refine wl rfl (ky (v := .int .i64 g32870) hS (y_assign hS rfl) rfl rfl fun a hS => ?_)
                refine wl rfl (k_store hS rfl rfl (us := [.int .i64 e33846.Key.Kind, .string e33846.Key.Text, .string e33846.Value, v33847, .int .i64 e33846.Changed, .int .i64 e33846.Verified, .int .i64 e33846.Cost, .bool e33846.Dirty]) rfl ty34 0 rfl rfl rfl (oc rfl (oc rfl (oc rfl (oc (SlR.one ((hS.get 0 rfl) : SlR R_KeyD _ _ _ _)) (oc rfl (oc rfl (oc rfl (oc rfl on)))))))) fun w hk hS => ?_)
                refine wpList_nil ?_
                try simp only [Exit.then, Exit.inBlock, ↓reduceIte, Nat.reduceEqDiff]
                refine hK991 _ _ ?_
                refine wp_seq_k fun K992 hK992 => ?_
                refine r_list ?_
                refine wl rfl (ky (v := vz21482_3) hS (y_move hS rfl) rfl rfl fun a hS => ?_)
                refine wl rfl (ky (v := .pointer (some ⟨b33855, 0 + 0, none⟩)) hS (y_fld hS rfl fl34_0) rfl rfl fun a hS => ?_)
                refine wl rfl (ky (v := .agg #[.int .i64 e33846.Key.Kind, .string e33846.Key.Text]) hS (y_load hS rfl ty32 0 rfl id (us := [.int .i64 e33846.Key.Kind, .string e33846.Key.Text]) rfl rfl (fun h => by cases h)) rfl rfl fun a hS => ?_)
                have hL := hS
                replace hL := hL.freeze (R := R_RecordD) 1 rfl 1 rfl
                obtain ⟨u33858, hu33858, hM⟩ := bd hM
                refine wl rfl (k_call hS ci13 rfl rfl (group_Of_c _ _ hL.dlt (hL.get 5 rfl) u21481.1 2 e33846.Key _ (hL.get 0 rfl) _ hu33858) fun _ w hR a hk hA => ?_)
                obtain ⟨vz33859_2, clz33859_3, he, ⟨hOvz33859_2, hFvz33859_2, hRvz33859_2⟩⟩ := hR
                replace he := he.symm
                subst he
                have hS := hA [.own vz33859_2 32 R_KeyD.size clz33859_3] (adds1 ⟨hOvz33859_2, by decide⟩ hFvz33859_2) (pw1 _)
                replace hS := hS.fact (RowsF R_KeyD clz33859_3 u33858) hRvz33859_2
                refine wl rfl (ky (v := vz33859_2) hS (y_assign hS rfl) rfl rfl fun a hS => ?_)
                refine wpList_nil ?_
                try simp only [Exit.then, Exit.inBlock, ↓reduceIte, Nat.reduceEqDiff]
                refine hK992 _ _ ?_
                refine wp_seq_k fun K993 hK993 => ?_
                refine r_list ?_
                refine wl rfl (ky (v := vz21482_3) hS (y_move hS rfl) rfl rfl fun a hS => ?_)
                refine wl rfl (ky (v := .int .i64 (u21481.1.length : Int)) hS (y_leno (R := R_RecordD) (xs := u21481.1) hS sl28 rfl 2 rfl 2 rfl) rfl rfl fun a hS => ?_)
                refine wl rfl (ky (v := .int .i64 0) hS (y_move hS rfl) rfl rfl fun a hS => ?_)
                refine wpList_nil ?_
                try simp only [Exit.then, Exit.inBlock, ↓reduceIte, Nat.reduceEqDiff]
                refine hK993 _ _ ?_
                refine wp_block ?_
                obtain ⟨r2, hl2, hMo2⟩ := bd hM
                refine wp_lp (fun s : Int => law29_GroupCycles_l4 u21481 way30918 g32870 u33858 s) (fun s a w => ∃ (g34015 : Int), g34015 = s ∧ St W0 No T 196 [(3, vz21482_3), (5, v21486), (16, .int .i64 g32870), (18, vz33859_2), (149, vz21482_3), (150, .int .i64 (u21481.1.length : Int)), (151, .int .i64 g32870), (160, vz21482_3), (161, .int .i64 (u21481.1.length : Int)), (162, .int .i64 g34015)] [.own vz21482_3 34 R_RecordD.size clz21482_4, .own v21486 48 R_L4N.size cl30919, .grp in30920, .own vz33859_2 32 R_KeyD.size clz33859_3] [RowsF R_RecordD clz21482_4 u21481.1, RowsF R_L4N cl30919 (nzip nst_L4 in30920 way30918), InnF nst_L4 in30920 way30918, RowsF R_KeyD clz33859_3 u33858, LvF] a w) hl2 ⟨0, rfl, (hS.meet [2, 3, 4, 0] (by decide) ⟨rfl, rfl, rfl, rfl, rfl, rfl, rfl, rfl, rfl, rfl, trivial⟩ ⟨rfl, rfl, rfl, rfl, trivial⟩ ⟨⟨2, rfl⟩, ⟨3, rfl⟩, ⟨4, rfl⟩, ⟨0, rfl⟩, ⟨5, rfl⟩, trivial⟩)⟩ ?_
                rintro s a w f2 ⟨g34015, rfl, hS⟩ hM hf2
                have hM : law29_GroupCycles_l4 u21481 way30918 g32870 u33858 g34015 = some f2 := hM
                unfold law29_GroupCycles_l4 at hM
                refine wp_seq_k fun K1004 hK1004 => ?_
                refine r_list ?_
                refine wl rfl (ky (v := .bool (decide ((g34015 : Int) < (u21481.1.length : Int)))) hS (y_int hS rfl rfl rfl) rfl rfl fun a hS => ?_)
                refine wpList_nil ?_
                try simp only [Exit.then, Exit.inBlock, ↓reduceIte, Nat.reduceEqDiff]
                refine hK1004 _ _ ?_
                refine wp_seq_k fun K1005 hK1005 => ?_
                rcases bool2 (decide ((g34015 : Int) < (u21481.1.length : Int))) with hb34170 | hb34170
                · replace hM := ct hb34170 hM
                  refine c_t hS rfl hb34170 ?_
                  refine wp_skip ?_
                  try simp only [Exit.then, Exit.inBlock, ↓reduceIte, Nat.reduceEqDiff]
                  refine hK1005 _ _ ?_
                  refine wp_seq_k fun K1006 hK1006 => ?_
                  refine wp_block ?_
                  refine wp_seq_k fun K1007 hK1007 => ?_
                  refine r_list ?_
                  refine wl rfl (ky (v := .int .i64 g34015) hS (y_move hS rfl) rfl rfl fun a hS => ?_)
                  obtain ⟨e34171, he34171, hM⟩ := bd hM
                  refine wl rfl (k_indexo (R := R_RecordD) hS sl28 ty34 rfl rfl 0 rfl 0 rfl he34171 rfl fun b34173 o34174 p34179 cs34176 hr34175 hO34177 hC34178 a hS => ?_)
                  obtain ⟨v34172, rfl, hv34172⟩ := hr34175
                  replace hS := hS.fact (SlF R_KeyD v34172 e34171.Reads) hv34172
                  refine wl rfl (ky (v := .agg #[.int .i64 e34171.Key.Kind, .string e34171.Key.Text, .string e34171.Value, v34172, .int .i64 e34171.Changed, .int .i64 e34171.Verified, .int .i64 e34171.Cost, .bool e34171.Dirty]) hS (y_loado (k := 0) hS ty34 0 rfl hO34177 hC34178 rfl id (us := [.int .i64 e34171.Key.Kind, .string e34171.Key.Text, .string e34171.Value, v34172, .int .i64 e34171.Changed, .int .i64 e34171.Verified, .int .i64 e34171.Cost, .bool e34171.Dirty]) rfl rfl (fun h => by cases h)) rfl rfl fun a hS => ?_)
                  refine wl rfl (k_alloc hS ze34 rfl fun b34180 hnb34182 a w hk hS => ?_)
                  refine wl rfl (ky (v := .int .i64 g34015) hS (y_assign hS rfl) rfl rfl fun a hS => ?_)
                  refine wl rfl (k_store hS rfl rfl (us := [.int .i64 e34171.Key.Kind, .string e34171.Key.Text, .string e34171.Value, v34172, .int .i64 e34171.Changed, .int .i64 e34171.Verified, .int .i64 e34171.Cost, .bool e34171.Dirty]) rfl ty34 0 rfl rfl rfl (oc rfl (oc rfl (oc rfl (oc (SlR.one ((hS.get 0 rfl) : SlR R_KeyD _ _ _ _)) (oc rfl (oc rfl (oc rfl (oc rfl on)))))))) fun w hk hS => ?_)
                  refine wpList_nil ?_
                  try simp only [Exit.then, Exit.inBlock, ↓reduceIte, Nat.reduceEqDiff]
                  refine hK1007 _ _ ?_
                  refine seq_j (J := fun a w => ∃ (g34275 : Bool), St W0 No T 196 [(3, vz21482_3), (5, v21486), (16, .int .i64 g32870), (18, vz33859_2), (149, vz21482_3), (150, .int .i64 (u21481.1.length : Int)), (151, .int .i64 g32870), (160, vz21482_3), (161, .int .i64 (u21481.1.length : Int)), (162, .int .i64 g34015), (192, .bool g34275)] [.own vz21482_3 34 R_RecordD.size clz21482_4, .own v21486 48 R_L4N.size cl30919, .grp in30920, .own vz33859_2 32 R_KeyD.size clz33859_3] [RowsF R_RecordD clz21482_4 u21481.1, RowsF R_L4N cl30919 (nzip nst_L4 in30920 way30918), InnF nst_L4 in30920 way30918, RowsF R_KeyD clz33859_3 u33858, LvF] a w ∧ law29_GroupCycles_j3 g34015 g34275 = some f2) ?_ ?_
                  · skip
                    refine r_list ?_
                    refine wl rfl (ky (v := vz33859_2) hS (y_move hS rfl) rfl rfl fun a hS => ?_)
                    refine wl rfl (ky (v := .pointer (some ⟨b34180, 0 + 0, none⟩)) hS (y_fld hS rfl fl34_0) rfl rfl fun a hS => ?_)
                    refine wl rfl (ky (v := .agg #[.int .i64 e34171.Key.Kind, .string e34171.Key.Text]) hS (y_load hS rfl ty32 0 rfl id (us := [.int .i64 e34171.Key.Kind, .string e34171.Key.Text]) rfl rfl (fun h => by cases h)) rfl rfl fun a hS => ?_)
                    have hL := hS
                    replace hL := hL.freeze (R := R_KeyD) 4 rfl 4 rfl
                    obtain ⟨u34277, hu34277, hM⟩ := bd hM
                    refine wl rfl (k_call hS ci19 rfl rfl (ref23_Has_c _ _ hL.dlt u33858 e34171.Key _ (hL.get 0 rfl) _ hu34277) fun _ w hR a hk hA => ?_)
                    have he := Eq.symm hR
                    subst he
                    have hS := hA [] (fun r hr => by cases hr) List.Pairwise.nil
                    refine wl rfl (ky (v := .int .i64 g32870) hS (y_move hS rfl) rfl rfl fun a hS => ?_)
                    refine wl rfl (ky (v := .int .i64 g34015) hS (y_move hS rfl) rfl rfl fun a hS => ?_)
                    refine wl rfl (ky (v := .bool ((g32870 : Int) == g34015)) hS (y_int hS rfl rfl rfl) rfl rfl fun a hS => ?_)
                    refine wl rfl (ky (v := .bool ((g32870 : Int) == g34015)) hS (y_move hS rfl) rfl rfl fun a hS => ?_)
                    rcases bool2 ((g32870 : Int) == g34015) with hb34279 | hb34279
                    · replace hM := ct hb34279 hM
                      refine wn hS rfl rfl rfl hb34279 rfl rfl fun a hS => ?_
                      refine wn hS rfl rfl rfl hb34279 rfl rfl fun a hS => ?_
                      refine wn hS rfl rfl rfl hb34279 rfl rfl fun a hS => ?_
                      refine wn hS rfl rfl rfl hb34279 rfl rfl fun a hS => ?_
                      refine wn hS rfl rfl rfl hb34279 rfl rfl fun a hS => ?_
                      refine wn hS rfl rfl rfl hb34279 rfl rfl fun a hS => ?_
                      refine wn hS rfl rfl rfl hb34279 rfl rfl fun a hS => ?_
                      refine wn hS rfl rfl rfl hb34279 rfl rfl fun a hS => ?_
                      refine wnu hS rfl rfl rfl rfl rfl fun a hS => ?_
                      refine wnu hS rfl rfl rfl rfl rfl fun a hS => ?_
                      refine wnu hS rfl rfl rfl rfl rfl fun a hS => ?_
                      refine wnu hS rfl rfl rfl rfl rfl fun a hS => ?_
                      refine wnu hS rfl rfl rfl rfl rfl fun a hS => ?_
                      refine wnu hS rfl rfl rfl rfl rfl fun a hS => ?_
                      refine wnu hS rfl rfl rfl rfl rfl fun a hS => ?_
                      refine wn hS rfl rfl rfl hb34279 rfl rfl fun a hS => ?_
                      refine wl rfl (ky (v := .bool true) hS (y_pickt hS rfl hb34279 rfl) rfl rfl fun a hS => ?_)
                      refine wl rfl (ky (v := .bool (u34277 != true)) hS (y_bool hS rfl rfl Tryd.underlying4 (.inr ⟨rfl, rfl⟩)) rfl rfl fun a hS => ?_)
                      refine wpList_nil ?_
                      try simp only [Exit.then, Exit.inBlock, ↓reduceIte, Nat.reduceEqDiff]
                      exact ⟨(u34277 != true), (hS.meet [1, 2, 3, 4] (by decide) ⟨rfl, rfl, rfl, rfl, rfl, rfl, rfl, rfl, rfl, rfl, rfl, trivial⟩ ⟨rfl, rfl, rfl, rfl, trivial⟩ ⟨⟨1, rfl⟩, ⟨2, rfl⟩, ⟨3, rfl⟩, ⟨4, rfl⟩, ⟨5, rfl⟩, trivial⟩), hM⟩
                    · replace hM := cf hb34279 hM
                      refine wg hS rfl rfl rfl hb34279 (ky (v := v21486) hS (y_move hS rfl) rfl rfl fun a hS => ?_)
                      refine wg hS rfl rfl rfl hb34279 (ky (v := .int .i64 g32870) hS (y_move hS rfl) rfl rfl fun a hS => ?_)
                      obtain ⟨e34281, he34281, hM⟩ := bd hM
                      obtain ⟨q34282, ho34283, hgn34284⟩ := nz_get (N := nst_L4) (hS.get 3 rfl) he34281
                      refine wg hS rfl rfl rfl hb34279 (k_indexo (R := R_L4N) hS sl47 ty48 rfl rfl 2 rfl 2 rfl hgn34284 rfl fun b34285 o34286 p34291 cs34288 hr34287 hO34289 hC34290 a hS => ?_)
                      obtain ⟨rfl, hon34280⟩ := hr34287
                      refine wg hS rfl rfl rfl hb34279 (ky (v := q34282.v) hS (y_loado (k := 0) hS ty48 2 rfl hO34289 hC34290 rfl id (us := [q34282.v]) rfl rfl (fun _ => rfl)) rfl rfl fun a hS => ?_)
                      refine wg hS rfl rfl rfl hb34279 (ky (v := .int .i64 g34015) hS (y_move hS rfl) rfl rfl fun a hS => ?_)
                      have hZ := hS.focus (N := nst_L4) 3 rfl 3 rfl he34281 ho34283
                      replace hZ := (show St W0 No T 196 _ (.own q34282.v 4 Rep.bool.size q34282.cl :: _) (RowsF Rep.bool q34282.cl e34281 :: _) _ _ from hZ)
                      obtain ⟨e34292, he34292, hM⟩ := bd hM
                      obtain ⟨b34293, o34294, p34299, cs34296, hr34295, hO34297, hC34298, hy34300⟩ := d_indexo (R := Rep.bool) hZ sl48 ty4 0 rfl 0 rfl he34292
                      obtain rfl := hr34295
                      refine wg hS rfl rfl rfl hb34279 (ky (v := .pointer (some ⟨b34293, o34294, none⟩)) hS (hy34300 rfl rfl) rfl rfl fun a hS => ?_)
                      have hZ := hS.focus (N := nst_L4) 3 rfl 3 rfl he34281 ho34283
                      replace hZ := (show St W0 No T 196 _ (.own q34282.v 4 Rep.bool.size q34282.cl :: _) (RowsF Rep.bool q34282.cl e34281 :: _) _ _ from hZ)
                      refine wg hS rfl rfl rfl hb34279 (ky (v := .bool e34292) hS (y_loado (k := 0) hZ ty4 0 rfl hO34297 hC34298 rfl id (us := [.bool e34292]) rfl rfl (fun _ => rfl)) rfl rfl fun a hS => ?_)
                      refine wg hS rfl rfl rfl hb34279 (ky (v := .bool e34292) hS (y_move hS rfl) rfl rfl fun a hS => ?_)
                      rcases bool2 (e34292) with hb34301 | hb34301
                      · replace hM := ct hb34301 hM
                        refine wg hS rfl rfl rfl hb34301 (ky (v := v21486) hS (y_move hS rfl) rfl rfl fun a hS => ?_)
                        refine wg hS rfl rfl rfl hb34301 (ky (v := .int .i64 g34015) hS (y_move hS rfl) rfl rfl fun a hS => ?_)
                        obtain ⟨e34303, he34303, hM⟩ := bd hM
                        obtain ⟨q34304, ho34305, hgn34306⟩ := nz_get (N := nst_L4) (hS.get 3 rfl) he34303
                        refine wg hS rfl rfl rfl hb34301 (k_indexo (R := R_L4N) hS sl47 ty48 rfl rfl 2 rfl 2 rfl hgn34306 rfl fun b34307 o34308 p34313 cs34310 hr34309 hO34311 hC34312 a hS => ?_)
                        obtain ⟨rfl, hon34302⟩ := hr34309
                        refine wg hS rfl rfl rfl hb34301 (ky (v := q34304.v) hS (y_loado (k := 0) hS ty48 2 rfl hO34311 hC34312 rfl id (us := [q34304.v]) rfl rfl (fun _ => rfl)) rfl rfl fun a hS => ?_)
                        refine wg hS rfl rfl rfl hb34301 (ky (v := .int .i64 g32870) hS (y_move hS rfl) rfl rfl fun a hS => ?_)
                        have hZ := hS.focus (N := nst_L4) 3 rfl 3 rfl he34303 ho34305
                        replace hZ := (show St W0 No T 196 _ (.own q34304.v 4 Rep.bool.size q34304.cl :: _) (RowsF Rep.bool q34304.cl e34303 :: _) _ _ from hZ)
                        obtain ⟨e34314, he34314, hM⟩ := bd hM
                        obtain ⟨b34315, o34316, p34321, cs34318, hr34317, hO34319, hC34320, hy34322⟩ := d_indexo (R := Rep.bool) hZ sl48 ty4 0 rfl 0 rfl he34314
                        obtain rfl := hr34317
                        refine wg hS rfl rfl rfl hb34301 (ky (v := .pointer (some ⟨b34315, o34316, none⟩)) hS (hy34322 rfl rfl) rfl rfl fun a hS => ?_)
                        have hZ := hS.focus (N := nst_L4) 3 rfl 3 rfl he34303 ho34305
                        replace hZ := (show St W0 No T 196 _ (.own q34304.v 4 Rep.bool.size q34304.cl :: _) (RowsF Rep.bool q34304.cl e34303 :: _) _ _ from hZ)
                        refine wg hS rfl rfl rfl hb34301 (ky (v := .bool e34314) hS (y_loado (k := 0) hZ ty4 0 rfl hO34319 hC34320 rfl id (us := [.bool e34314]) rfl rfl (fun _ => rfl)) rfl rfl fun a hS => ?_)
                        refine wg hS rfl rfl rfl hb34279 (ky (v := .bool e34314) hS (y_pickt hS rfl hb34301 rfl) rfl rfl fun a hS => ?_)
                        refine wl rfl (ky (v := .bool e34314) hS (y_pickf hS rfl hb34279 rfl) rfl rfl fun a hS => ?_)
                        refine wl rfl (ky (v := .bool (u34277 != e34314)) hS (y_bool hS rfl rfl Tryd.underlying4 (.inr ⟨rfl, rfl⟩)) rfl rfl fun a hS => ?_)
                        refine wpList_nil ?_
                        try simp only [Exit.then, Exit.inBlock, ↓reduceIte, Nat.reduceEqDiff]
                        exact ⟨(u34277 != e34314), (hS.meet [1, 2, 3, 4] (by decide) ⟨rfl, rfl, rfl, rfl, rfl, rfl, rfl, rfl, rfl, rfl, rfl, trivial⟩ ⟨rfl, rfl, rfl, rfl, trivial⟩ ⟨⟨1, rfl⟩, ⟨2, rfl⟩, ⟨3, rfl⟩, ⟨4, rfl⟩, ⟨5, rfl⟩, trivial⟩), hM⟩
                      · replace hM := cf hb34301 hM
                        refine wn hS rfl rfl rfl hb34301 rfl rfl fun a hS => ?_
                        refine wn hS rfl rfl rfl hb34301 rfl rfl fun a hS => ?_
                        refine wn hS rfl rfl rfl hb34301 rfl rfl fun a hS => ?_
                        refine wn hS rfl rfl rfl hb34301 rfl rfl fun a hS => ?_
                        refine wn hS rfl rfl rfl hb34301 rfl rfl fun a hS => ?_
                        refine wn hS rfl rfl rfl hb34301 rfl rfl fun a hS => ?_
                        refine wn hS rfl rfl rfl hb34301 rfl rfl fun a hS => ?_
                        refine wg hS rfl rfl rfl hb34279 (ky (v := .bool false) hS (y_pickf hS rfl hb34301 rfl) rfl rfl fun a hS => ?_)
                        refine wl rfl (ky (v := .bool false) hS (y_pickf hS rfl hb34279 rfl) rfl rfl fun a hS => ?_)
                        refine wl rfl (ky (v := .bool (u34277 != false)) hS (y_bool hS rfl rfl Tryd.underlying4 (.inr ⟨rfl, rfl⟩)) rfl rfl fun a hS => ?_)
                        refine wpList_nil ?_
                        try simp only [Exit.then, Exit.inBlock, ↓reduceIte, Nat.reduceEqDiff]
                        exact ⟨(u34277 != false), (hS.meet [1, 2, 3, 4] (by decide) ⟨rfl, rfl, rfl, rfl, rfl, rfl, rfl, rfl, rfl, rfl, rfl, trivial⟩ ⟨rfl, rfl, rfl, rfl, trivial⟩ ⟨⟨1, rfl⟩, ⟨2, rfl⟩, ⟨3, rfl⟩, ⟨4, rfl⟩, ⟨5, rfl⟩, trivial⟩), hM⟩
                  · rintro a w ⟨g34275, hS, hM⟩
                    unfold law29_GroupCycles_j3 at hM
                    rcases bool2 (g34275) with hb34276 | hb34276
                    · replace hM := ct hb34276 hM
                      refine c_t hS rfl hb34276 ?_
                      refine wp_seq_k fun K1008 hK1008 => ?_
                      refine r_list ?_
                      refine wl rfl (ky (v := .bool false) hS (y_assign hS rfl) rfl rfl fun a hS => ?_)
                      refine wpList_nil ?_
                      try simp only [Exit.then, Exit.inBlock, ↓reduceIte, Nat.reduceEqDiff]
                      refine hK1008 _ _ ?_
                      refine wp_ret ?_
                      injection hM with hM
                      subst hM
                      have hr := hf2 _ rfl
                      subst hr
                      replace hMo2 := el_out hMo2
                      have hM := hMo2
                      injection hM with hM
                      subst hM
                      have hr := hf1 _ rfl
                      subst hr
                      replace hMo1 := el_out hMo1
                      have hM := hMo1
                      injection hM with hM
                      subst hM
                      try simp only [Exit.then, Exit.inBlock, ↓reduceIte, Nat.reduceEqDiff]
                      refine ret_ok hS Tryd.results5 (res_tmp hS rfl res_nil) ?_
                      exact rfl
                    · replace hM := cf hb34276 hM
                      refine c_f hS rfl hb34276 ?_
                      refine wp_skip ?_
                      try simp only [Exit.then, Exit.inBlock, ↓reduceIte, Nat.reduceEqDiff]
                      refine hK1006 _ _ ?_
                      refine r_list ?_
                      refine wl rfl (ky (v := .int .i64 (IntKind.i64.wrap (g34015 + 1))) hS (y_int hS rfl rfl rfl) rfl rfl fun a hS => ?_)
                      refine wl rfl (ky (v := .int .i64 (IntKind.i64.wrap (g34015 + 1))) hS (y_move hS rfl) rfl rfl fun a hS => ?_)
                      refine wpList_nil ?_
                      try simp only [Exit.then, Exit.inBlock, ↓reduceIte, Nat.reduceEqDiff]
                      exact ⟨IntKind.i64.wrap (g34015 + 1), (Option.some.inj hM).symm, (IntKind.i64.wrap (g34015 + 1)), rfl, (hS.meet [0, 1, 2, 3] (by decide) ⟨rfl, rfl, rfl, rfl, rfl, rfl, rfl, rfl, rfl, rfl, trivial⟩ ⟨rfl, rfl, rfl, rfl, trivial⟩ ⟨⟨0, rfl⟩, ⟨1, rfl⟩, ⟨2, rfl⟩, ⟨3, rfl⟩, ⟨4, rfl⟩, trivial⟩)⟩
                · replace hM := cf hb34170 hM
                  refine c_f hS rfl hb34170 ?_
                  refine wp_exit ?_
                  try simp only [Exit.then, Exit.inBlock, ↓reduceIte, Nat.reduceEqDiff]
                  injection hM with hM
                  subst hM
                  have hr := hf2 _ rfl
                  subst hr
                  replace hMo2 := el_go hMo2
                  have hM : law29_GroupCycles_j2 g32870 = some f1 := hMo2
                  exact ⟨(hS.meet [0, 1, 2] (by decide) ⟨rfl, rfl, rfl, rfl, rfl, trivial⟩ ⟨rfl, rfl, rfl, trivial⟩ ⟨⟨0, rfl⟩, ⟨1, rfl⟩, ⟨2, rfl⟩, ⟨4, rfl⟩, trivial⟩), hM⟩
              · rintro a w ⟨hS, hM⟩
                unfold law29_GroupCycles_j2 at hM
                refine r_list ?_
                refine wl rfl (ky (v := .int .i64 (IntKind.i64.wrap (g32870 + 1))) hS (y_int hS rfl rfl rfl) rfl rfl fun a hS => ?_)
                refine wl rfl (ky (v := .int .i64 (IntKind.i64.wrap (g32870 + 1))) hS (y_move hS rfl) rfl rfl fun a hS => ?_)
                refine wpList_nil ?_
                try simp only [Exit.then, Exit.inBlock, ↓reduceIte, Nat.reduceEqDiff]
                exact ⟨IntKind.i64.wrap (g32870 + 1), (Option.some.inj hM).symm, (IntKind.i64.wrap (g32870 + 1)), rfl, (hS.meet [0, 1, 2] (by decide) ⟨rfl, rfl, rfl, rfl, rfl, trivial⟩ ⟨rfl, rfl, rfl, trivial⟩ ⟨⟨0, rfl⟩, ⟨1, rfl⟩, ⟨2, rfl⟩, ⟨3, rfl⟩, trivial⟩)⟩
            · replace hM := cf hb33521 hM
              refine c_f hS rfl hb33521 ?_
              refine wp_exit ?_
              try simp only [Exit.then, Exit.inBlock, ↓reduceIte, Nat.reduceEqDiff]
              injection hM with hM
              subst hM
              have hr := hf1 _ rfl
              subst hr
              replace hMo1 := el_go hMo1
              have hM : law29_GroupCycles_j1 = some y := hMo1
              exact ⟨(hS.meet [] (by decide) trivial trivial ⟨⟨3, rfl⟩, trivial⟩), hM⟩
          · rintro a w ⟨hS, hM⟩
            unfold law29_GroupCycles_j1 at hM
            refine wp_seq_k fun K918 hK918 => ?_
            refine r_list ?_
            obtain ⟨u32220, hu32220, hM⟩ := bd hM
            refine wl rfl (k_call hS ci8 rfl rfl (law29_awake_c _ _ hS.dlt (hS.get 0 rfl) _ hu32220) fun _ w hR a hk hA => ?_)
            have he := Eq.symm hR
            subst he
            have hS := hA [] (fun r hr => by cases hr) List.Pairwise.nil
            refine wl rfl (ky (v := .bool u32220) hS (y_assign hS rfl) rfl rfl fun a hS => ?_)
            refine wpList_nil ?_
            try simp only [Exit.then, Exit.inBlock, ↓reduceIte, Nat.reduceEqDiff]
            refine hK918 _ _ ?_
            refine wp_ret ?_
            injection hM with hM
            subst hM
            try simp only [Exit.then, Exit.inBlock, ↓reduceIte, Nat.reduceEqDiff]
            refine ret_ok hS Tryd.results5 (res_tmp hS rfl res_nil) ?_
            exact rfl
end Go.Proofs.YtdappapdddnciaaDoor
