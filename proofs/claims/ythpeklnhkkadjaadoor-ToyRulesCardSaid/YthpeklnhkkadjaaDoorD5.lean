/- What functions of the program compute; that they do. -/
import Derived.Test.YthpeklnhkkadjaaDoorMT
import Derived.Test.YthpeklnhkkadjaaDoorD1
import Derived.Test.YthpeklnhkkadjaaDoorD4
set_option linter.unusedVariables false
set_option linter.unusedSimpArgs false
namespace Go.Proofs.YthpeklnhkkadjaaDoor
open Go.RowKit
noncomputable def mill_Rules_j1 (l15608 : (List RuleD)) (d15610 : (List Int)) (d15612 : Int) : Option ((List RuleD) × DiceD) := some ((l15608, (DiceD.mk d15610 d15612)))
noncomputable def mill_Rules_j2 (g18185 : Int) (l22039 : (List RuleD)) (d22041 : (List Int)) (d22043 : Int) : Option (Fl ((List RuleD) × Int × (List Int) × Int) ((List RuleD) × (List Int) × Int)) := some (.go (l22039, IntKind.i64.wrap (g18185 + 1), d22041, d22043))
noncomputable def mill_Rules_j3 (l18183 : (List RuleD)) (g18185 : Int) (r22134 : Bool) (r22163 : Int) (r22164 : Int) (d22701 : (List Int)) (d22703 : Int) (r22704 : (List AskD)) : Option (Fl ((List RuleD) × Int × (List Int) × Int) ((List RuleD) × (List Int) × Int)) := (getI l18183 g18185).bind fun e22708 => mill_Rules_j2 g18185 (l18183.set (Int.toNat g18185) (RuleD.mk r22134 r22704 r22163 r22164)) d22701 d22703
noncomputable def mill_Rules_j4 (k22984 : Int) (d23379 : (List Int)) (d23381 : Int) (r23382 : (List AskD)) : Option (Fl (Int × (List Int) × Int × (List AskD)) ((List Int) × Int × (List AskD))) := some (.go (IntKind.i64.wrap (k22984 - 1), d23379, d23381, r23382))
noncomputable def mill_Rules_j5 (k22984 : Int) (r22988 : (List AskD)) (x23409 : Bool) (x23433 : Int) (d23453 : (List Int)) (d23455 : Int) (x23456 : Bool) (x23457 : Int) : Option (Fl (Int × (List Int) × Int × (List AskD)) ((List Int) × Int × (List AskD))) := gd (roomB (r22988.length + ([(AskD.mk x23409 x23456 x23433 x23457)]).length)) <| mill_Rules_j4 k22984 d23453 d23455 (r22988 ++ ([(AskD.mk x23409 x23456 x23433 x23457)]))
noncomputable def mill_Rules_j6 (k22984 : Int) (r22988 : (List AskD)) (x23409 : Bool) (most23411 : Int) (x23433 : Int) (g23472 : Bool) (d23473 : (List Int)) (d23475 : Int) : Option (Fl (Int × (List Int) × Int × (List AskD)) ((List Int) × Int × (List AskD))) := cond g23472 ((dice_Next (DiceD.mk d23473 d23475) most23411).bind fun u23477 => mill_Rules_j5 k22984 r22988 x23409 x23433 u23477.2.L u23477.2.At true u23477.1) (mill_Rules_j5 k22984 r22988 x23409 x23433 d23473 d23475 false 0)
noncomputable def mill_Rules_j7 (r22134 : Bool) (k22984 : Int) (r22988 : (List AskD)) (x23409 : Bool) (most23411 : Int) (d23430 : (List Int)) (d23432 : Int) (x23433 : Int) : Option (Fl (Int × (List Int) × Int × (List AskD)) ((List Int) × Int × (List AskD))) := cond (!(r22134)) (cond (decide ((0 : Int) < (r22988.length : Int))) ((dice_Next (DiceD.mk d23430 d23432) 3).bind fun u23481 => mill_Rules_j6 k22984 r22988 x23409 most23411 x23433 ((u23481.1 : Int) == 1) u23481.2.L u23481.2.At) (mill_Rules_j6 k22984 r22988 x23409 most23411 x23433 false d23430 d23432)) (mill_Rules_j6 k22984 r22988 x23409 most23411 x23433 false d23430 d23432)
noncomputable def mill_Rules_j8 (r22134 : Bool) (k22984 : Int) (r22988 : (List AskD)) (x23409 : Bool) (most23411 : Int) (u23412 : (Int × DiceD)) (g23489 : Bool) (d23490 : (List Int)) (d23492 : Int) : Option (Fl (Int × (List Int) × Int × (List AskD)) ((List Int) × Int × (List AskD))) := cond g23489 ((dice_Next (DiceD.mk d23490 d23492) (min most23411 3)).bind fun u23494 => mill_Rules_j7 r22134 k22984 r22988 x23409 most23411 u23494.2.L u23494.2.At (IntKind.i64.wrap ((IntKind.i64.wrap (most23411 - 1)) - u23494.1))) (mill_Rules_j7 r22134 k22984 r22988 x23409 most23411 d23490 d23492 u23412.1)
noncomputable def mill_Rules_j9 (r22134 : Bool) (k22984 : Int) (r22988 : (List AskD)) (d23406 : (List Int)) (d23408 : Int) (x23409 : Bool) (most23411 : Int) : Option (Fl (Int × (List Int) × Int × (List AskD)) ((List Int) × Int × (List AskD))) := (dice_Next (DiceD.mk d23406 d23408) most23411).bind fun u23412 => cond (!(x23409)) ((dice_Next (DiceD.mk u23412.2.L u23412.2.At) 2).bind fun u23497 => mill_Rules_j8 r22134 k22984 r22988 x23409 most23411 u23412 ((u23497.1 : Int) == 0) u23497.2.L u23497.2.At) (mill_Rules_j8 r22134 k22984 r22988 x23409 most23411 u23412 false u23412.2.L u23412.2.At)
noncomputable def mill_Rules_j10 (b22056 : Int) (r22134 : Bool) (k22984 : Int) (r22988 : (List AskD)) (d23406 : (List Int)) (d23408 : Int) (x23409 : Bool) : Option (Fl (Int × (List Int) × Int × (List AskD)) ((List Int) × Int × (List AskD))) := cond x23409 (mill_Rules_j9 r22134 k22984 r22988 d23406 d23408 x23409 4) (mill_Rules_j9 r22134 k22984 r22988 d23406 d23408 x23409 b22056)
noncomputable def mill_Rules_l11 (b22056 : Int) (r22134 : Bool) (k22984 : Int) (d22985 : (List Int)) (d22987 : Int) (r22988 : (List AskD)) : Option (Fl (Int × (List Int) × Int × (List AskD)) ((List Int) × Int × (List AskD))) := cond (decide ((0 : Int) < k22984)) ((dice_Next (DiceD.mk d22985 d22987) 3).bind fun u23500 => cond ((u23500.1 : Int) == 0) (mill_Rules_j10 b22056 r22134 k22984 r22988 u23500.2.L u23500.2.At true) (mill_Rules_j10 b22056 r22134 k22984 r22988 u23500.2.L u23500.2.At ((b22056 : Int) == 0))) (some (.out (d22985, d22987, r22988)))
noncomputable def mill_Rules_j12 (l18183 : (List RuleD)) (g18185 : Int) (b22056 : Int) (r22134 : Bool) (d22160 : (List Int)) (d22162 : Int) (r22163 : Int) (r22164 : Int) : Option (Fl ((List RuleD) × Int × (List Int) × Int) ((List RuleD) × (List Int) × Int)) := (dice_Next (DiceD.mk d22160 d22162) 4).bind fun u22718 => (loop (fun s : Int × (List Int) × Int × (List AskD) => mill_Rules_l11 b22056 r22134 s.1 s.2.1 s.2.2.1 s.2.2.2) (u22718.1, u22718.2.L, u22718.2.At, ([] : List AskD))).bind fun r => mill_Rules_j3 l18183 g18185 r22134 r22163 r22164 r.1 r.2.1 r.2.2
noncomputable def mill_Rules_j13 (l18183 : (List RuleD)) (g18185 : Int) (b22056 : Int) (d22131 : (List Int)) (d22133 : Int) (r22134 : Bool) (r22135 : Int) (r22136 : Int) : Option (Fl ((List RuleD) × Int × (List Int) × Int) ((List RuleD) × (List Int) × Int)) := cond r22134 ((dice_Next (DiceD.mk d22131 d22133) 6).bind fun u23521 => (getI ([0, 1, 2, 4, 8, 16]) u23521.1).bind fun e23525 => mill_Rules_j12 l18183 g18185 b22056 r22134 u23521.2.L u23521.2.At 5 e23525) (mill_Rules_j12 l18183 g18185 b22056 r22134 d22131 d22133 r22135 r22136)
noncomputable def mill_Rules_j14 (l18183 : (List RuleD)) (g18185 : Int) (d18186 : (List Int)) (d18188 : Int) (b22056 : Int) : Option (Fl ((List RuleD) × Int × (List Int) × Int) ((List RuleD) × (List Int) × Int)) := (getI l18183 g18185).bind fun e23550 => (dice_Next (DiceD.mk d18186 d18188) 4).bind fun u23560 => (dice_Next (DiceD.mk u23560.2.L u23560.2.At) 6).bind fun u23562 => mill_Rules_j13 l18183 g18185 b22056 u23562.2.L u23562.2.At e23550.Ring (IntKind.i64.wrap (1 + u23560.1)) u23562.1
noncomputable def mill_Rules_l15 (l10455 : (List RuleD)) (l18183 : (List RuleD)) (g18185 : Int) (d18186 : (List Int)) (d18188 : Int) : Option (Fl ((List RuleD) × Int × (List Int) × Int) ((List RuleD) × (List Int) × Int)) := cond (decide ((g18185 : Int) < (l10455.length : Int))) ((ref24_Block l18183 g18185).bind fun u22044 => (getI l18183 g18185).bind fun e23568 => cond (!(e23568.Ring)) (mill_Rules_j14 l18183 g18185 d18186 d18188 u22044.1) (mill_Rules_j14 l18183 g18185 d18186 d18188 u22044.2)) (some (.out (l18183, d18186, d18188)))
noncomputable def mill_Rules_j16 (l10455 : (List RuleD)) (d10459 : (List Int)) (d10461 : Int) : Option ((List RuleD) × DiceD) := (loop (fun s : (List RuleD) × Int × (List Int) × Int => mill_Rules_l15 l10455 s.1 s.2.1 s.2.2.1 s.2.2.2) (l10455, 0, d10459, d10461)).bind fun r => mill_Rules_j1 r.1 r.2.1 r.2.2
noncomputable def mill_Rules_l17 (l23598 : (List RuleD)) (n23602 : Int) (d23603 : (List Int)) (d23605 : Int) : Option (Fl ((List RuleD) × Int × (List Int) × Int) ((List RuleD) × (List Int) × Int)) := cond (decide ((0 : Int) < n23602)) ((dice_Next (DiceD.mk d23603 d23605) 3).bind fun u23625 => gd (roomB (l23598.length + ([(RuleD.mk ((u23625.1 : Int) == 1) ([]) 0 0)]).length)) <| some (.go ((l23598 ++ ([(RuleD.mk ((u23625.1 : Int) == 1) ([]) 0 0)])), IntKind.i64.wrap (n23602 - 1), u23625.2.L, u23625.2.At))) (some (.out (l23598, d23603, d23605)))
noncomputable def mill_Rules (d_0 : DiceD) : Option ((List RuleD) × DiceD) := (dice_Next d_0 7).bind fun u23578 => (loop (fun s : (List RuleD) × Int × (List Int) × Int => mill_Rules_l17 s.1 s.2.1 s.2.2.1 s.2.2.2) (([] : List RuleD), IntKind.i64.wrap (2 + u23578.1), u23578.2.L, u23578.2.At)).bind fun r => mill_Rules_j16 r.1 r.2.1 r.2.2
set_option maxRecDepth 100000 in
set_option maxHeartbeats 4000000 in
theorem mill_Rules_c (T : Nat → Prop) (W0 : World) (hT : ∀ k, T k → k < W0.heap.size) (d_0 : DiceD) (v2 : Value) (b1 : Nat) (hb1 : W0.heap[b1]? = some (.cells #[v2, .int .i64 d_0.At] 104 (0, 0))) (hTb1 : ¬ T b1) (hv2 : SlR (Rep.int .i64) (dT T [.box b1 [v2, .int .i64 d_0.At] 104]) W0 v2 d_0.L) (y : (List RuleD) × DiceD) (hM : mill_Rules d_0 = some y) : Rets Tryd.prog (fun k => k = b1) 28 [.pointer (some ⟨b1, 0, none⟩)] W0 (fun v w' => ∃ (v3 : Value) (cl4 : List Value) (v5 : Value), v = v3 ∧ OwnR R_RuleD T W0 w' [.own v3 48 R_RuleD.size cl4, .box b1 [v5, .int .i64 y.2.At] 104] 48 v3 cl4 y.1 ∧ w'.heap[b1]? = some (.cells #[v5, .int .i64 y.2.At] 104 (0, 0)) ∧ SlR (Rep.int .i64) (dT T [.own v3 48 R_RuleD.size cl4, .box b1 [v5, .int .i64 y.2.At] 104]) w' v5 y.2.L) := by
  refine enterm (c := _) Tryd.func28 rfl T 132 Tryd.ntmps28 hT rfl hb1 hTb1 fun a hS => ?_
  replace hS := hS.fact (SlF (Rep.int .i64) v2 d_0.L) hv2
  unfold mill_Rules at hM
  refine wp_seq_k fun K412 hK412 => ?_
  refine r_list ?_
  refine wl rfl (ky (v := .slice none 0 0) hS (y_assign hS rfl) rfl rfl fun a hS => ?_)
  refine wpList_nil ?_
  try simp only [Exit.then, Exit.inBlock, ↓reduceIte, Nat.reduceEqDiff]
  refine hK412 _ _ ?_
  refine wp_seq_k fun K413 hK413 => ?_
  refine r_list ?_
  refine wl rfl (ky (v := .slice none 0 0) hS (y_assign hS rfl) rfl rfl fun a hS => ?_)
  refine wpList_nil ?_
  try simp only [Exit.then, Exit.inBlock, ↓reduceIte, Nat.reduceEqDiff]
  refine hK413 _ _ ?_
  refine seq_j (J := fun a w => ∃ (l10455 : (List RuleD)) (d10459 : (List Int)) (d10461 : Int) (v10456 : Value) (cl10457 : (List Value)) (v10460 : Value), St W0 (fun k => k = b1) T 132 [(0, .pointer (some ⟨b1, 0, none⟩)), (3, v10456)] [.own v10456 48 R_RuleD.size cl10457, .box b1 [v10460, .int .i64 d10461] 104] [RowsF R_RuleD cl10457 l10455, SlF (Rep.int .i64) v10460 d10459] a w ∧ mill_Rules_j16 l10455 d10459 d10461 = some y) ?_ ?_
  · skip
    refine wp_seq_k fun K924 hK924 => ?_
    refine r_list ?_
    refine wl rfl (ky (v := .pointer (some ⟨b1, 0, none⟩)) hS (y_move hS rfl) rfl rfl fun a hS => ?_)
    obtain ⟨u23578, hu23578, hM⟩ := bd hM
    refine wl rfl (k_callm hS ci63 rfl rfl 0 rfl (dice_Next_c _ _ (hS.drop 0).dlt d_0 7 _ _ (hS.boxRow 0 rfl) (hS.notin 0 rfl) (SlR.lent (i := 0) rfl (hS.get 0 rfl)) _ hu23578) fun _ w hR hk => ?_)
    obtain ⟨vz23579_3, he, hrow, hRvz23579_3⟩ := hR
    replace he := he.symm
    subst he
    refine ⟨[vz23579_3, .int .i64 u23578.2.At], hrow, fun a hS => ?_⟩
    replace hS := hS.fact (SlF (Rep.int .i64) vz23579_3 u23578.2.L) (SlR.back (i := 0) rfl hRvz23579_3)
    refine wl rfl (ky (v := .int .i64 (IntKind.i64.wrap (2 + u23578.1))) hS (y_int hS rfl rfl rfl) rfl rfl fun a hS => ?_)
    refine wl rfl (ky (v := .int .i64 (IntKind.i64.wrap (2 + u23578.1))) hS (y_assign hS rfl) rfl rfl fun a hS => ?_)
    refine wpList_nil ?_
    try simp only [Exit.then, Exit.inBlock, ↓reduceIte, Nat.reduceEqDiff]
    refine hK924 _ _ ?_
    refine wp_block ?_
    replace hS := hS.nilRow R_RuleD 48 (by decide)
    obtain ⟨r1, hl1, hMo1⟩ := bd hM
    refine wp_lp (fun s : (List RuleD) × Int × (List Int) × Int => mill_Rules_l17 s.1 s.2.1 s.2.2.1 s.2.2.2) (fun s a w => ∃ (l23598 : (List RuleD)) (n23602 : Int) (d23603 : (List Int)) (d23605 : Int) (v23599 : Value) (cl23600 : (List Value)) (v23604 : Value), (l23598, n23602, d23603, d23605) = s ∧ St W0 (fun k => k = b1) T 132 [(0, .pointer (some ⟨b1, 0, none⟩)), (3, v23599), (4, .int .i64 n23602)] [.own v23599 48 R_RuleD.size cl23600, .box b1 [v23604, .int .i64 d23605] 104] [RowsF R_RuleD cl23600 l23598, SlF (Rep.int .i64) v23604 d23603] a w) hl1 ⟨([] : List RuleD), (IntKind.i64.wrap (2 + u23578.1)), u23578.2.L, u23578.2.At, (.slice none 0 0), ([]), vz23579_3, rfl, (hS.meet [0, 1] (by decide) ⟨rfl, rfl, rfl, trivial⟩ ⟨rfl, rfl, trivial⟩ ⟨⟨0, rfl⟩, ⟨1, rfl⟩, trivial⟩)⟩ ?_
    rintro s a w f1 ⟨l23598, n23602, d23603, d23605, v23599, cl23600, v23604, rfl, hS⟩ hM hf1
    have hM : mill_Rules_l17 l23598 n23602 d23603 d23605 = some f1 := hM
    unfold mill_Rules_l17 at hM
    refine wp_seq_k fun K931 hK931 => ?_
    refine wp_seq_k fun K932 hK932 => ?_
    refine r_list ?_
    refine wl rfl (ky (v := .int .i64 n23602) hS (y_move hS rfl) rfl rfl fun a hS => ?_)
    refine wl rfl (ky (v := .bool (decide ((0 : Int) < n23602))) hS (y_int hS rfl rfl rfl) rfl rfl fun a hS => ?_)
    refine wpList_nil ?_
    try simp only [Exit.then, Exit.inBlock, ↓reduceIte, Nat.reduceEqDiff]
    refine hK932 _ _ ?_
    rcases bool2 (decide ((0 : Int) < n23602)) with hb23624 | hb23624
    · replace hM := ct hb23624 hM
      refine c_t hS rfl hb23624 ?_
      refine wp_skip ?_
      try simp only [Exit.then, Exit.inBlock, ↓reduceIte, Nat.reduceEqDiff]
      refine hK931 _ _ ?_
      refine wp_seq_k fun K933 hK933 => ?_
      refine wp_block ?_
      refine r_list ?_
      refine wl rfl (ky (v := v23599) hS (y_move hS rfl) rfl rfl fun a hS => ?_)
      refine wl rfl (ky (v := .pointer (some ⟨b1, 0, none⟩)) hS (y_move hS rfl) rfl rfl fun a hS => ?_)
      obtain ⟨u23625, hu23625, hM⟩ := bd hM
      refine wl rfl (k_callm hS ci63 rfl rfl 1 rfl (dice_Next_c _ _ (hS.drop 1).dlt (DiceD.mk d23603 d23605) 3 _ _ (hS.boxRow 1 rfl) (hS.notin 1 rfl) (SlR.lent (i := 1) rfl (hS.get 1 rfl)) _ hu23625) fun _ w hR hk => ?_)
      obtain ⟨vz23626_3, he, hrow, hRvz23626_3⟩ := hR
      replace he := he.symm
      subst he
      refine ⟨[vz23626_3, .int .i64 u23625.2.At], hrow, fun a hS => ?_⟩
      replace hS := hS.fact (SlF (Rep.int .i64) vz23626_3 u23625.2.L) (SlR.back (i := 1) rfl hRvz23626_3)
      refine wl rfl (ky (v := .bool ((u23625.1 : Int) == 1)) hS (y_int hS rfl rfl rfl) rfl rfl fun a hS => ?_)
      refine wl rfl (ky (v := .agg #[.bool ((u23625.1 : Int) == 1), .slice none 0 0, .int .i64 0, .int .i64 0]) hS (y_build (ps := [(0, .tmp 22)]) hS pl48 ze48 rfl (us := [[.bool ((u23625.1 : Int) == 1)]]) ⟨rfl, trivial⟩ (ws := [.bool ((u23625.1 : Int) == 1), .slice none 0 0, .int .i64 0, .int .i64 0]) rfl) rfl rfl fun a hS => ?_)
      refine wl rfl (k_bslice (ps := [(0, .tmp 23)]) hS el44 ze48 (zl := [.bool false, .slice none 0 0, .int .i64 0, .int .i64 0]) (by kernel_rfl) rfl (us := [[.bool ((u23625.1 : Int) == 1), .slice none 0 0, .int .i64 0, .int .i64 0]]) ⟨rfl, trivial⟩ (ws := [.bool ((u23625.1 : Int) == 1), .slice none 0 0, .int .i64 0, .int .i64 0]) rfl rfl rfl rfl fun b23627 a w hk hS => ?_)
      replace hS := hS.lit (R := R_RuleD) (us := [.bool ((u23625.1 : Int) == 1), .slice none 0 0, .int .i64 0, .int .i64 0]) (xs := [(RuleD.mk ((u23625.1 : Int) == 1) ([]) 0 0)]) 0 rfl (by decide) (RowsOk.one_ (R := R_RuleD) (x := (RuleD.mk ((u23625.1 : Int) == 1) ([]) 0 0)) (⟨_, rfl, SlR.nil_ _ _ _⟩)) rfl rfl
      replace hS := hS.freeze (R := R_RuleD) 0 rfl 0 rfl
      obtain ⟨hg23629, hM⟩ := gd_some hM
      refine wl rfl (k_apps (R := R_RuleD) (xs := l23598) (ys := [(RuleD.mk ((u23625.1 : Int) == 1) ([]) 0 0)]) hS el44 (by decide) (by decide) rfl rfl 0 rfl 3 rfl 0 rfl hg23629 rfl fun v23630 cl23631 a w hk hS => ?_)
      refine wl rfl (ky (v := v23630) hS (y_assign hS rfl) rfl rfl fun a hS => ?_)
      refine wpList_nil ?_
      try simp only [Exit.then, Exit.inBlock, ↓reduceIte, Nat.reduceEqDiff]
      refine hK933 _ _ ?_
      refine r_list ?_
      refine wl rfl (ky (v := .int .i64 n23602) hS (y_move hS rfl) rfl rfl fun a hS => ?_)
      refine wl rfl (ky (v := .int .i64 (IntKind.i64.wrap (n23602 - 1))) hS (y_int hS rfl rfl rfl) rfl rfl fun a hS => ?_)
      refine wl rfl (ky (v := .int .i64 (IntKind.i64.wrap (n23602 - 1))) hS (y_assign hS rfl) rfl rfl fun a hS => ?_)
      refine wpList_nil ?_
      try simp only [Exit.then, Exit.inBlock, ↓reduceIte, Nat.reduceEqDiff]
      exact ⟨((l23598 ++ ([(RuleD.mk ((u23625.1 : Int) == 1) ([]) 0 0)])), IntKind.i64.wrap (n23602 - 1), u23625.2.L, u23625.2.At), (Option.some.inj hM).symm, (l23598 ++ ([(RuleD.mk ((u23625.1 : Int) == 1) ([]) 0 0)])), (IntKind.i64.wrap (n23602 - 1)), u23625.2.L, u23625.2.At, v23630, cl23631, vz23626_3, rfl, (hS.meet [0, 1] (by decide) ⟨rfl, rfl, rfl, trivial⟩ ⟨rfl, rfl, trivial⟩ ⟨⟨0, rfl⟩, ⟨3, rfl⟩, trivial⟩)⟩
    · replace hM := cf hb23624 hM
      refine c_f hS rfl hb23624 ?_
      refine wp_exit ?_
      try simp only [Exit.then, Exit.inBlock, ↓reduceIte, Nat.reduceEqDiff]
      injection hM with hM
      subst hM
      have hr := hf1 _ rfl
      subst hr
      have hM : mill_Rules_j16 l23598 d23603 d23605 = some y := hMo1
      exact ⟨l23598, d23603, d23605, v23599, cl23600, v23604, (hS.meet [0, 1] (by decide) ⟨rfl, rfl, trivial⟩ ⟨rfl, rfl, trivial⟩ ⟨⟨0, rfl⟩, ⟨1, rfl⟩, trivial⟩), hM⟩
  · rintro a w ⟨l10455, d10459, d10461, v10456, cl10457, v10460, hS, hM⟩
    unfold mill_Rules_j16 at hM
    refine seq_j (J := fun a w => ∃ (l15608 : (List RuleD)) (d15610 : (List Int)) (d15612 : Int) (cl15609 : (List Value)) (v15611 : Value), St W0 (fun k => k = b1) T 132 [(3, v10456)] [.own v10456 48 R_RuleD.size cl15609, .box b1 [v15611, .int .i64 d15612] 104] [RowsF R_RuleD cl15609 l15608, SlF (Rep.int .i64) v15611 d15610] a w ∧ mill_Rules_j1 l15608 d15610 d15612 = some y) ?_ ?_
    · skip
      refine wp_seq_k fun K619 hK619 => ?_
      refine r_list ?_
      refine wl rfl (ky (v := v10456) hS (y_move hS rfl) rfl rfl fun a hS => ?_)
      refine wl rfl (ky (v := .int .i64 (l10455.length : Int)) hS (y_leno (R := R_RuleD) (xs := l10455) hS sl44 rfl 0 rfl 0 rfl) rfl rfl fun a hS => ?_)
      refine wl rfl (ky (v := .int .i64 0) hS (y_move hS rfl) rfl rfl fun a hS => ?_)
      refine wpList_nil ?_
      try simp only [Exit.then, Exit.inBlock, ↓reduceIte, Nat.reduceEqDiff]
      refine hK619 _ _ ?_
      refine wp_block ?_
      obtain ⟨r1, hl1, hMo1⟩ := bd hM
      refine wp_lp (fun s : (List RuleD) × Int × (List Int) × Int => mill_Rules_l15 l10455 s.1 s.2.1 s.2.2.1 s.2.2.2) (fun s a w => ∃ (l18183 : (List RuleD)) (g18185 : Int) (d18186 : (List Int)) (d18188 : Int) (cl18184 : (List Value)) (v18187 : Value), (l18183, g18185, d18186, d18188) = s ∧ St W0 (fun k => k = b1) T 132 [(0, .pointer (some ⟨b1, 0, none⟩)), (3, v10456), (27, .int .i64 (l10455.length : Int)), (28, .int .i64 g18185)] [.own v10456 48 R_RuleD.size cl18184, .box b1 [v18187, .int .i64 d18188] 104] [RowsF R_RuleD cl18184 l18183, SlF (Rep.int .i64) v18187 d18186] a w) hl1 ⟨l10455, 0, d10459, d10461, cl10457, v10460, rfl, (hS.meet [0, 1] (by decide) ⟨rfl, rfl, rfl, rfl, trivial⟩ ⟨rfl, rfl, trivial⟩ ⟨⟨0, rfl⟩, ⟨1, rfl⟩, trivial⟩)⟩ ?_
      rintro s a w f1 ⟨l18183, g18185, d18186, d18188, cl18184, v18187, rfl, hS⟩ hM hf1
      have hM : mill_Rules_l15 l10455 l18183 g18185 d18186 d18188 = some f1 := hM
      unfold mill_Rules_l15 at hM
      refine wp_seq_k fun K816 hK816 => ?_
      refine r_list ?_
      refine wl rfl (ky (v := .bool (decide ((g18185 : Int) < (l10455.length : Int)))) hS (y_int hS rfl rfl rfl) rfl rfl fun a hS => ?_)
      refine wpList_nil ?_
      try simp only [Exit.then, Exit.inBlock, ↓reduceIte, Nat.reduceEqDiff]
      refine hK816 _ _ ?_
      refine wp_seq_k fun K817 hK817 => ?_
      rcases bool2 (decide ((g18185 : Int) < (l10455.length : Int))) with hb20759 | hb20759
      · replace hM := ct hb20759 hM
        refine c_t hS rfl hb20759 ?_
        refine wp_skip ?_
        try simp only [Exit.then, Exit.inBlock, ↓reduceIte, Nat.reduceEqDiff]
        refine hK817 _ _ ?_
        refine seq_j (J := fun a w => ∃ (l22039 : (List RuleD)) (d22041 : (List Int)) (d22043 : Int) (cl22040 : (List Value)) (v22042 : Value), St W0 (fun k => k = b1) T 132 [(0, .pointer (some ⟨b1, 0, none⟩)), (3, v10456), (27, .int .i64 (l10455.length : Int)), (28, .int .i64 g18185)] [.own v10456 48 R_RuleD.size cl22040, .box b1 [v22042, .int .i64 d22043] 104] [RowsF R_RuleD cl22040 l22039, SlF (Rep.int .i64) v22042 d22041] a w ∧ mill_Rules_j2 g18185 l22039 d22041 d22043 = some f1) ?_ ?_
        · skip
          refine wp_block ?_
          refine wp_seq_k fun K866 hK866 => ?_
          refine r_list ?_
          refine wl rfl (ky (v := .int .i64 g18185) hS (y_move hS rfl) rfl rfl fun a hS => ?_)
          refine wl rfl (ky (v := .int .i64 g18185) hS (y_assign hS rfl) rfl rfl fun a hS => ?_)
          refine wpList_nil ?_
          try simp only [Exit.then, Exit.inBlock, ↓reduceIte, Nat.reduceEqDiff]
          refine hK866 _ _ ?_
          refine wp_seq_k fun K867 hK867 => ?_
          refine r_list ?_
          refine wl rfl (ky (v := v10456) hS (y_move hS rfl) rfl rfl fun a hS => ?_)
          refine wl rfl (ky (v := .int .i64 g18185) hS (y_move hS rfl) rfl rfl fun a hS => ?_)
          have hL := hS
          replace hL := hL.freeze (R := R_RuleD) 0 rfl 0 rfl
          obtain ⟨u22044, hu22044, hM⟩ := bd hM
          refine wl rfl (k_call hS ci33 rfl rfl (ref24_Block_c _ _ hL.dlt l18183 g18185 _ (hL.get 0 rfl) _ hu22044) fun _ w hR a hk hA => ?_)
          have he := Eq.symm hR
          subst he
          have hS := hA [] (fun r hr => by cases hr) List.Pairwise.nil
          refine wl rfl (ky (v := .tuple #[.int .i64 u22044.1, .int .i64 u22044.2]) hS (y_move hS rfl) rfl rfl fun a hS => ?_)
          refine wl rfl (ky (v := .int .i64 u22044.1) hS (y_ex hS rfl rfl) rfl rfl fun a hS => ?_)
          refine wl rfl (ky (v := .int .i64 u22044.2) hS (y_ex hS rfl rfl) rfl rfl fun a hS => ?_)
          refine wl rfl (ky (v := .int .i64 u22044.1) hS (y_assign hS rfl) rfl rfl fun a hS => ?_)
          refine wl rfl (ky (v := .int .i64 u22044.2) hS (y_assign hS rfl) rfl rfl fun a hS => ?_)
          refine wpList_nil ?_
          try simp only [Exit.then, Exit.inBlock, ↓reduceIte, Nat.reduceEqDiff]
          refine hK867 _ _ ?_
          refine seq_j (J := fun a w => ∃ (b22056 : Int), St W0 (fun k => k = b1) T 132 [(0, .pointer (some ⟨b1, 0, none⟩)), (3, v10456), (5, .int .i64 g18185), (7, .int .i64 b22056), (27, .int .i64 (l10455.length : Int)), (28, .int .i64 g18185)] [.own v10456 48 R_RuleD.size cl18184, .box b1 [v18187, .int .i64 d18188] 104] [RowsF R_RuleD cl18184 l18183, SlF (Rep.int .i64) v18187 d18186] a w ∧ mill_Rules_j14 l18183 g18185 d18186 d18188 b22056 = some f1) ?_ ?_
          · skip
            refine wp_seq_k fun K923 hK923 => ?_
            refine r_list ?_
            refine wl rfl (ky (v := v10456) hS (y_move hS rfl) rfl rfl fun a hS => ?_)
            refine wl rfl (ky (v := .int .i64 g18185) hS (y_move hS rfl) rfl rfl fun a hS => ?_)
            obtain ⟨e23568, he23568, hM⟩ := bd hM
            refine wl rfl (k_indexo (R := R_RuleD) hS sl44 ty48 rfl rfl 0 rfl 0 rfl he23568 rfl fun b23570 o23571 p23576 cs23573 hr23572 hO23574 hC23575 a hS => ?_)
            obtain ⟨v23569, rfl, hv23569⟩ := hr23572
            replace hS := hS.fact (SlF R_AskD v23569 e23568.Asks) hv23569
            refine wl rfl (ky (v := .pointer (some ⟨b23570, o23571 + 0, none⟩)) hS (y_fld hS rfl fl48_0) rfl rfl fun a hS => ?_)
            refine wl rfl (ky (v := .bool e23568.Ring) hS (y_loado (k := 0) hS ty4 0 rfl hO23574 hC23575 rfl id (us := [.bool e23568.Ring]) rfl rfl (fun _ => rfl)) rfl rfl fun a hS => ?_)
            refine wl rfl (ky (v := .bool (!(e23568.Ring))) hS (y_not hS rfl) rfl rfl fun a hS => ?_)
            refine wpList_nil ?_
            try simp only [Exit.then, Exit.inBlock, ↓reduceIte, Nat.reduceEqDiff]
            refine hK923 _ _ ?_
            rcases bool2 (!(e23568.Ring)) with hb23577 | hb23577
            · replace hM := ct hb23577 hM
              refine c_t hS rfl hb23577 ?_
              refine r_list ?_
              refine wl rfl (ky (v := .int .i64 u22044.1) hS (y_move hS rfl) rfl rfl fun a hS => ?_)
              refine wl rfl (ky (v := .int .i64 u22044.1) hS (y_assign hS rfl) rfl rfl fun a hS => ?_)
              refine wpList_nil ?_
              try simp only [Exit.then, Exit.inBlock, ↓reduceIte, Nat.reduceEqDiff]
              exact ⟨u22044.1, (hS.meet [0, 1] (by decide) ⟨rfl, rfl, rfl, rfl, rfl, rfl, trivial⟩ ⟨rfl, rfl, trivial⟩ ⟨⟨1, rfl⟩, ⟨2, rfl⟩, trivial⟩), hM⟩
            · replace hM := cf hb23577 hM
              refine c_f hS rfl hb23577 ?_
              refine wp_skip ?_
              try simp only [Exit.then, Exit.inBlock, ↓reduceIte, Nat.reduceEqDiff]
              exact ⟨u22044.2, (hS.meet [0, 1] (by decide) ⟨rfl, rfl, rfl, rfl, rfl, rfl, trivial⟩ ⟨rfl, rfl, trivial⟩ ⟨⟨1, rfl⟩, ⟨2, rfl⟩, trivial⟩), hM⟩
          · rintro a w ⟨b22056, hS, hM⟩
            unfold mill_Rules_j14 at hM
            refine seq_j (J := fun a w => ∃ (d22131 : (List Int)) (d22133 : Int) (r22134 : Bool) (r22135 : Int) (r22136 : Int) (b22129 : Nat) (v22132 : Value), St W0 (fun k => k = b1) T 132 [(0, .pointer (some ⟨b1, 0, none⟩)), (3, v10456), (5, .int .i64 g18185), (7, .int .i64 b22056), (8, .pointer (some ⟨b22129, 0, none⟩)), (27, .int .i64 (l10455.length : Int)), (28, .int .i64 g18185)] [.own v10456 48 R_RuleD.size cl18184, .box b1 [v22132, .int .i64 d22133] 104, .box b22129 [.bool r22134, .slice none 0 0, .int .i64 r22135, .int .i64 r22136] 48] [RowsF R_RuleD cl18184 l18183, SlF (Rep.int .i64) v22132 d22131] a w ∧ mill_Rules_j13 l18183 g18185 b22056 d22131 d22133 r22134 r22135 r22136 = some f1) ?_ ?_
            · skip
              obtain ⟨N23549, hN23549⟩ : ∃ N, N = w.heap.size := ⟨_, rfl⟩
              replace hS := hS.fact (SzF N23549) (Nat.le_of_eq hN23549)
              refine draws [(6, .blk (some b1)), (9, .blk (some b1)), (12, .new N23549)] hS mixed rfl (fun c a d v w h => by cases d <;> exact h) fun w hQ hS => ?_
              refine dy 0 (v := v10456) rfl (by kernel_rfl) (by kernel_rfl) (by kernel_rfl) rfl hQ hS (y_move hS rfl) rfl rfl rfl fun a hS => ?_
              refine dy 1 (v := .int .i64 g18185) rfl (by kernel_rfl) (by kernel_rfl) (by kernel_rfl) rfl hQ hS (y_move hS rfl) rfl rfl rfl fun a hS => ?_
              obtain ⟨e23550, he23550, hM⟩ := bd hM
              obtain ⟨b23552, o23553, p23558, cs23555, hr23554, hO23556, hC23557, hy23559⟩ := d_indexo (R := R_RuleD) hS sl44 ty48 0 rfl 1 rfl he23550
              obtain ⟨v23551, rfl, hv23551⟩ := hr23554
              replace hS := hS.fact (SlF R_AskD v23551 e23550.Asks) hv23551
              refine dy 2 (v := .pointer (some ⟨b23552, o23553, none⟩)) rfl (by kernel_rfl) (by kernel_rfl) (by kernel_rfl) rfl hQ hS (hy23559 rfl rfl) rfl rfl rfl fun a hS => ?_
              refine dy 3 (v := .pointer (some ⟨b23552, o23553 + 0, none⟩)) rfl (by kernel_rfl) (by kernel_rfl) (by kernel_rfl) rfl hQ hS (y_fld hS rfl fl48_0) rfl rfl rfl fun a hS => ?_
              refine dy (l := [.blk (some b1), .blk (some b1)]) 4 (v := .bool e23550.Ring) rfl (by kernel_rfl) (by kernel_rfl) (by kernel_rfl) (by kernel_rfl) hQ hS (y_loado (k := 0) hS ty4 0 rfl hO23556 hC23557 rfl (eo_ne hS 0 rfl (oel_dom hO23556) 1 rfl rfl (by decide) (eo_ne hS 0 rfl (oel_dom hO23556) 1 rfl rfl (by decide) eo_nil)) (us := [.bool e23550.Ring]) rfl rfl (fun _ => rfl)) rfl rfl rfl fun a hS => ?_
              refine dy 5 (v := .pointer (some ⟨b1, 0, none⟩)) rfl (by kernel_rfl) (by kernel_rfl) (by kernel_rfl) rfl hQ hS (y_move hS rfl) rfl rfl rfl fun a hS => ?_
              refine dy 8 (v := .pointer (some ⟨b1, 0, none⟩)) rfl (by kernel_rfl) (by kernel_rfl) (by kernel_rfl) rfl hQ hS (y_move hS rfl) rfl rfl rfl fun a hS => ?_
              obtain ⟨u23560, hu23560, hM⟩ := bd hM
              refine wpE_two (i := 6) (j := 11) rfl rfl (by kernel_rfl) rfl rfl ?_ ?_
              · skip
                skip
                refine id (k_callm hS ci63 rfl rfl 1 rfl (dice_Next_c _ _ (hS.drop 1).dlt (DiceD.mk d18186 d18188) 4 _ _ (hS.boxRow 1 rfl) (hS.notin 1 rfl) (SlR.lent (i := 1) rfl (hS.get 3 rfl)) _ hu23560) fun _ w hR hk => ?_)
                obtain ⟨vz23561_3, he, hrow, hRvz23561_3⟩ := hR
                replace he := he.symm
                subst he
                refine ⟨[vz23561_3, .int .i64 u23560.2.At], hrow, fun a hS => ⟨stM rfl hk etBox, ?_⟩⟩
                replace hS := hS.fact (SlF (Rep.int .i64) vz23561_3 u23560.2.L) (SlR.back (i := 1) rfl hRvz23561_3)
                refine dy 7 (v := .int .i64 (IntKind.i64.wrap (1 + u23560.1))) rfl (by kernel_rfl) (by kernel_rfl) (by kernel_rfl) rfl hQ hS (y_int hS rfl rfl rfl) rfl rfl rfl fun a hS => ?_
                obtain ⟨u23562, hu23562, hM⟩ := bd hM
                refine wpE_two (i := 9) (j := 11) rfl rfl (by kernel_rfl) rfl rfl ?_ ?_
                · skip
                  skip
                  refine id (k_callm hS ci63 rfl rfl 1 rfl (dice_Next_c _ _ (hS.drop 1).dlt (DiceD.mk u23560.2.L u23560.2.At) 6 _ _ (hS.boxRow 1 rfl) (hS.notin 1 rfl) (SlR.lent (i := 1) rfl (hS.get 0 rfl)) _ hu23562) fun _ w hR hk => ?_)
                  obtain ⟨vz23563_3, he, hrow, hRvz23563_3⟩ := hR
                  replace he := he.symm
                  subst he
                  refine ⟨[vz23563_3, .int .i64 u23562.2.At], hrow, fun a hS => ⟨stM rfl hk etBox, ?_⟩⟩
                  replace hS := hS.fact (SlF (Rep.int .i64) vz23563_3 u23562.2.L) (SlR.back (i := 1) rfl hRvz23563_3)
                  refine dy 10 (v := .agg #[.bool e23550.Ring, .slice none 0 0, .int .i64 (IntKind.i64.wrap (1 + u23560.1)), .int .i64 u23562.1]) rfl (by kernel_rfl) (by kernel_rfl) (by kernel_rfl) rfl hQ hS (y_build (ps := [(0, .tmp 48), (2, .tmp 51), (3, .tmp 53)]) hS pl48 ze48 rfl (us := [[.bool e23550.Ring], [.int .i64 (IntKind.i64.wrap (1 + u23560.1))], [.int .i64 u23562.1]]) ⟨rfl, ⟨rfl, ⟨rfl, trivial⟩⟩⟩ (ws := [.bool e23550.Ring, .slice none 0 0, .int .i64 (IntKind.i64.wrap (1 + u23560.1)), .int .i64 u23562.1]) rfl) rfl rfl rfl fun a hS => ?_
                  have hz23567 := (hS.get 3 rfl : N23549 ≤ w.heap.size)
                  refine wpE_one (i := 11) rfl (by kernel_rfl) rfl (k_alloc hS ze48 rfl fun b23564 hnb23566 a w hk hS => ⟨stN (hk), ?_⟩)
                  refine wpE_upd 12 (.blk (some b23564)) _ (by kernel_rfl) (etNB (Nat.le_trans hz23567 hnb23566)) ?_
                  refine wpE_one (i := 12) rfl (by kernel_rfl) rfl (k_store hS rfl rfl (us := [.bool e23550.Ring, .slice none 0 0, .int .i64 (IntKind.i64.wrap (1 + u23560.1)), .int .i64 u23562.1]) rfl ty48 0 rfl rfl rfl (oc rfl (oc rfl (oc rfl (oc rfl on)))) fun w hk hS => ⟨stM rfl hk etBox, ?_⟩)
                  refine wpE_done (by kernel_rfl) ?_ _
                  try simp only [Exit.then, Exit.inBlock, ↓reduceIte, Nat.reduceEqDiff]
                  exact ⟨u23562.2.L, u23562.2.At, e23550.Ring, (IntKind.i64.wrap (1 + u23560.1)), u23562.1, b23564, vz23563_3, (hS.meet [1, 2, 0] (by decide) ⟨rfl, rfl, rfl, rfl, rfl, rfl, rfl, trivial⟩ ⟨rfl, rfl, rfl, trivial⟩ ⟨⟨4, rfl⟩, ⟨0, rfl⟩, trivial⟩), hM⟩
                · skip
                  skip
                  have hz23566 := (hS.get 2 rfl : N23549 ≤ w.heap.size)
                  refine id (k_alloc hS ze48 rfl fun b23563 hnb23565 a w hk hS => ⟨stN (hk), ?_⟩)
                  refine wpE_upd 12 (.blk (some b23563)) _ (by kernel_rfl) (etNB (Nat.le_trans hz23566 hnb23565)) ?_
                  refine wpE_one (i := 9) rfl (by kernel_rfl) rfl (k_callm hS ci63 rfl rfl 2 rfl (dice_Next_c _ _ (hS.drop 2).dlt (DiceD.mk u23560.2.L u23560.2.At) 6 _ _ (hS.boxRow 2 rfl) (hS.notin 2 rfl) (SlR.lent (i := 2) rfl (hS.get 0 rfl)) _ hu23562) fun _ w hR hk => ?_)
                  obtain ⟨vz23567_3, he, hrow, hRvz23567_3⟩ := hR
                  replace he := he.symm
                  subst he
                  refine ⟨[vz23567_3, .int .i64 u23562.2.At], hrow, fun a hS => ⟨stM rfl hk etBox, ?_⟩⟩
                  replace hS := hS.fact (SlF (Rep.int .i64) vz23567_3 u23562.2.L) (SlR.back (i := 2) rfl hRvz23567_3)
                  refine dy 10 (v := .agg #[.bool e23550.Ring, .slice none 0 0, .int .i64 (IntKind.i64.wrap (1 + u23560.1)), .int .i64 u23562.1]) rfl (by kernel_rfl) (by kernel_rfl) (by kernel_rfl) rfl hQ hS (y_build (ps := [(0, .tmp 48), (2, .tmp 51), (3, .tmp 53)]) hS pl48 ze48 rfl (us := [[.bool e23550.Ring], [.int .i64 (IntKind.i64.wrap (1 + u23560.1))], [.int .i64 u23562.1]]) ⟨rfl, ⟨rfl, ⟨rfl, trivial⟩⟩⟩ (ws := [.bool e23550.Ring, .slice none 0 0, .int .i64 (IntKind.i64.wrap (1 + u23560.1)), .int .i64 u23562.1]) rfl) rfl rfl rfl fun a hS => ?_
                  refine wpE_one (i := 12) rfl (by kernel_rfl) rfl (k_store hS rfl rfl (us := [.bool e23550.Ring, .slice none 0 0, .int .i64 (IntKind.i64.wrap (1 + u23560.1)), .int .i64 u23562.1]) rfl ty48 0 rfl rfl rfl (oc rfl (oc rfl (oc rfl (oc rfl on)))) fun w hk hS => ⟨stM rfl hk etBox, ?_⟩)
                  refine wpE_done (by kernel_rfl) ?_ _
                  try simp only [Exit.then, Exit.inBlock, ↓reduceIte, Nat.reduceEqDiff]
                  exact ⟨u23562.2.L, u23562.2.At, e23550.Ring, (IntKind.i64.wrap (1 + u23560.1)), u23562.1, b23563, vz23567_3, (hS.meet [1, 2, 0] (by decide) ⟨rfl, rfl, rfl, rfl, rfl, rfl, rfl, trivial⟩ ⟨rfl, rfl, rfl, trivial⟩ ⟨⟨4, rfl⟩, ⟨0, rfl⟩, trivial⟩), hM⟩
              · skip
                skip
                have hz23564 := (hS.get 1 rfl : N23549 ≤ w.heap.size)
                refine id (k_alloc hS ze48 rfl fun b23561 hnb23563 a w hk hS => ⟨stN (hk), ?_⟩)
                refine wpE_upd 12 (.blk (some b23561)) _ (by kernel_rfl) (etNB (Nat.le_trans hz23564 hnb23563)) ?_
                refine wpE_one (i := 6) rfl (by kernel_rfl) rfl (k_callm hS ci63 rfl rfl 2 rfl (dice_Next_c _ _ (hS.drop 2).dlt (DiceD.mk d18186 d18188) 4 _ _ (hS.boxRow 2 rfl) (hS.notin 2 rfl) (SlR.lent (i := 2) rfl (hS.get 3 rfl)) _ hu23560) fun _ w hR hk => ?_)
                obtain ⟨vz23565_3, he, hrow, hRvz23565_3⟩ := hR
                replace he := he.symm
                subst he
                refine ⟨[vz23565_3, .int .i64 u23560.2.At], hrow, fun a hS => ⟨stM rfl hk etBox, ?_⟩⟩
                replace hS := hS.fact (SlF (Rep.int .i64) vz23565_3 u23560.2.L) (SlR.back (i := 2) rfl hRvz23565_3)
                refine dy 7 (v := .int .i64 (IntKind.i64.wrap (1 + u23560.1))) rfl (by kernel_rfl) (by kernel_rfl) (by kernel_rfl) rfl hQ hS (y_int hS rfl rfl rfl) rfl rfl rfl fun a hS => ?_
                obtain ⟨u23566, hu23566, hM⟩ := bd hM
                refine wpE_one (i := 9) rfl (by kernel_rfl) rfl (k_callm hS ci63 rfl rfl 2 rfl (dice_Next_c _ _ (hS.drop 2).dlt (DiceD.mk u23560.2.L u23560.2.At) 6 _ _ (hS.boxRow 2 rfl) (hS.notin 2 rfl) (SlR.lent (i := 2) rfl (hS.get 0 rfl)) _ hu23566) fun _ w hR hk => ?_)
                obtain ⟨vz23567_3, he, hrow, hRvz23567_3⟩ := hR
                replace he := he.symm
                subst he
                refine ⟨[vz23567_3, .int .i64 u23566.2.At], hrow, fun a hS => ⟨stM rfl hk etBox, ?_⟩⟩
                replace hS := hS.fact (SlF (Rep.int .i64) vz23567_3 u23566.2.L) (SlR.back (i := 2) rfl hRvz23567_3)
                refine dy 10 (v := .agg #[.bool e23550.Ring, .slice none 0 0, .int .i64 (IntKind.i64.wrap (1 + u23560.1)), .int .i64 u23566.1]) rfl (by kernel_rfl) (by kernel_rfl) (by kernel_rfl) rfl hQ hS (y_build (ps := [(0, .tmp 48), (2, .tmp 51), (3, .tmp 53)]) hS pl48 ze48 rfl (us := [[.bool e23550.Ring], [.int .i64 (IntKind.i64.wrap (1 + u23560.1))], [.int .i64 u23566.1]]) ⟨rfl, ⟨rfl, ⟨rfl, trivial⟩⟩⟩ (ws := [.bool e23550.Ring, .slice none 0 0, .int .i64 (IntKind.i64.wrap (1 + u23560.1)), .int .i64 u23566.1]) rfl) rfl rfl rfl fun a hS => ?_
                refine wpE_one (i := 12) rfl (by kernel_rfl) rfl (k_store hS rfl rfl (us := [.bool e23550.Ring, .slice none 0 0, .int .i64 (IntKind.i64.wrap (1 + u23560.1)), .int .i64 u23566.1]) rfl ty48 0 rfl rfl rfl (oc rfl (oc rfl (oc rfl (oc rfl on)))) fun w hk hS => ⟨stM rfl hk etBox, ?_⟩)
                refine wpE_done (by kernel_rfl) ?_ _
                try simp only [Exit.then, Exit.inBlock, ↓reduceIte, Nat.reduceEqDiff]
                exact ⟨u23566.2.L, u23566.2.At, e23550.Ring, (IntKind.i64.wrap (1 + u23560.1)), u23566.1, b23561, vz23567_3, (hS.meet [1, 2, 0] (by decide) ⟨rfl, rfl, rfl, rfl, rfl, rfl, rfl, trivial⟩ ⟨rfl, rfl, rfl, trivial⟩ ⟨⟨4, rfl⟩, ⟨0, rfl⟩, trivial⟩), hM⟩
            · rintro a w ⟨d22131, d22133, r22134, r22135, r22136, b22129, v22132, hS, hM⟩
              unfold mill_Rules_j13 at hM
              refine seq_j (J := fun a w => ∃ (d22160 : (List Int)) (d22162 : Int) (r22163 : Int) (r22164 : Int) (v22161 : Value), St W0 (fun k => k = b1) T 132 [(0, .pointer (some ⟨b1, 0, none⟩)), (3, v10456), (5, .int .i64 g18185), (7, .int .i64 b22056), (8, .pointer (some ⟨b22129, 0, none⟩)), (27, .int .i64 (l10455.length : Int)), (28, .int .i64 g18185)] [.own v10456 48 R_RuleD.size cl18184, .box b1 [v22161, .int .i64 d22162] 104, .box b22129 [.bool r22134, .slice none 0 0, .int .i64 r22163, .int .i64 r22164] 48] [RowsF R_RuleD cl18184 l18183, SlF (Rep.int .i64) v22161 d22160] a w ∧ mill_Rules_j12 l18183 g18185 b22056 r22134 d22160 d22162 r22163 r22164 = some f1) ?_ ?_
              · skip
                refine wp_seq_k fun K922 hK922 => ?_
                refine r_list ?_
                refine wl rfl (ky (v := .pointer (some ⟨b22129, 0 + 0, none⟩)) hS (y_fld hS rfl fl48_0) rfl rfl fun a hS => ?_)
                refine wl rfl (ky (v := .bool r22134) hS (y_load hS rfl ty4 2 rfl id (us := [.bool r22134]) rfl rfl (fun _ => rfl)) rfl rfl fun a hS => ?_)
                refine wpList_nil ?_
                try simp only [Exit.then, Exit.inBlock, ↓reduceIte, Nat.reduceEqDiff]
                refine hK922 _ _ ?_
                rcases bool2 (r22134) with hb23509 | hb23509
                · replace hM := ct hb23509 hM
                  refine c_t hS rfl hb23509 ?_
                  refine draws [(2, .blk (some b1)), (6, .blk (some b22129)), (8, .blk (some b22129))] hS mixed rfl (fun c a d v w h => by cases d <;> exact h) fun w hQ hS => ?_
                  refine dy 1 (v := .pointer (some ⟨b1, 0, none⟩)) rfl (by kernel_rfl) (by kernel_rfl) (by kernel_rfl) rfl hQ hS (y_move hS rfl) rfl rfl rfl fun a hS => ?_
                  refine dy 5 (v := .pointer (some ⟨b22129, 0 + 2, none⟩)) rfl (by kernel_rfl) (by kernel_rfl) (by kernel_rfl) rfl hQ hS (y_fld hS rfl fl48_2) rfl rfl rfl fun a hS => ?_
                  obtain ⟨u23521, hu23521, hM⟩ := bd hM
                  refine wpE_two (i := 0) (j := 2) rfl rfl (by kernel_rfl) rfl rfl ?_ ?_
                  · skip
                    skip
                    refine id (k_bslice (ps := [(0, .const (.int .i64 0)), (1, .const (.int .i64 1)), (2, .const (.int .i64 2)), (3, .const (.int .i64 4)), (4, .const (.int .i64 8)), (5, .const (.int .i64 16))]) hS el39 ze3 (zl := [.int .i64 0, .int .i64 0, .int .i64 0, .int .i64 0, .int .i64 0, .int .i64 0]) (by kernel_rfl) rfl (us := [[.int .i64 0], [.int .i64 1], [.int .i64 2], [.int .i64 4], [.int .i64 8], [.int .i64 16]]) ⟨rfl, ⟨rfl, ⟨rfl, ⟨rfl, ⟨rfl, ⟨rfl, trivial⟩⟩⟩⟩⟩⟩ (ws := [.int .i64 0, .int .i64 1, .int .i64 2, .int .i64 4, .int .i64 8, .int .i64 16]) rfl rfl rfl rfl fun b23522 a w hk hS => ⟨stN (hk), ?_⟩)
                    refine wpE_one (i := 2) rfl (by kernel_rfl) rfl (k_callm hS ci63 rfl rfl 2 rfl (dice_Next_c _ _ (hS.drop 2).dlt (DiceD.mk d22131 d22133) 6 _ _ (hS.boxRow 2 rfl) (hS.notin 2 rfl) (SlR.lent (i := 2) rfl (hS.get 1 rfl)) _ hu23521) fun _ w hR hk => ?_)
                    obtain ⟨vz23524_3, he, hrow, hRvz23524_3⟩ := hR
                    replace he := he.symm
                    subst he
                    refine ⟨[vz23524_3, .int .i64 u23521.2.At], hrow, fun a hS => ⟨stM rfl hk etBox, ?_⟩⟩
                    replace hS := hS.fact (SlF (Rep.int .i64) vz23524_3 u23521.2.L) (SlR.back (i := 2) rfl hRvz23524_3)
                    replace hS := hS.lit (R := (Rep.int .i64)) (us := [.int .i64 0, .int .i64 1, .int .i64 2, .int .i64 4, .int .i64 8, .int .i64 16]) (xs := [0, 1, 2, 4, 8, 16]) 0 rfl (by decide) ((RowsOk.one_ (R := (Rep.int .i64)) (x := 0) rfl).append ((RowsOk.one_ (R := (Rep.int .i64)) (x := 1) rfl).append ((RowsOk.one_ (R := (Rep.int .i64)) (x := 2) rfl).append ((RowsOk.one_ (R := (Rep.int .i64)) (x := 4) rfl).append ((RowsOk.one_ (R := (Rep.int .i64)) (x := 8) rfl).append (RowsOk.one_ (R := (Rep.int .i64)) (x := 16) rfl)))))) rfl rfl
                    replace hS := hS.freeze (R := (Rep.int .i64)) 0 rfl 0 rfl
                    obtain ⟨e23525, he23525, hM⟩ := bd hM
                    obtain ⟨b23526, o23527, cs23529, hr23528, hy23531, hS⟩ := d_index (R := (Rep.int .i64)) hS sl39 ty3 0 rfl he23525
                    obtain rfl := hr23528
                    refine dy 3 (v := .pointer (some ⟨b23526, o23527, none⟩)) rfl (by kernel_rfl) (by kernel_rfl) (by kernel_rfl) rfl hQ hS (hy23531 rfl rfl) rfl rfl rfl fun a hS => ?_
                    refine dy (l := [.blk (some b22129)]) 4 (v := .int .i64 e23525) rfl (by kernel_rfl) (by kernel_rfl) (by kernel_rfl) (by kernel_rfl) hQ hS (y_loadc (k := 0) hS ty3 0 rfl rfl (es_in 2 rfl rfl es_nil) (us := [.int .i64 e23525]) rfl rfl (fun _ => rfl)) rfl rfl rfl fun a hS => ?_
                    refine wpE_one (i := 6) rfl (by kernel_rfl) rfl (k_store hS rfl rfl (us := [.int .i64 5]) rfl ty3 2 rfl rfl rfl (oc rfl on) fun w hk hS => ⟨stM rfl hk etBox, ?_⟩)
                    refine dy 7 (v := .pointer (some ⟨b22129, 0 + 3, none⟩)) rfl (by kernel_rfl) (by kernel_rfl) (by kernel_rfl) rfl hQ hS (y_fld hS rfl fl48_3) rfl rfl rfl fun a hS => ?_
                    refine wpE_one (i := 8) rfl (by kernel_rfl) rfl (k_store hS rfl rfl (us := [.int .i64 e23525]) rfl ty3 2 rfl rfl rfl (oc rfl on) fun w hk hS => ⟨stM rfl hk etBox, ?_⟩)
                    refine wpE_done (by kernel_rfl) ?_ _
                    try simp only [Exit.then, Exit.inBlock, ↓reduceIte, Nat.reduceEqDiff]
                    exact ⟨u23521.2.L, u23521.2.At, 5, e23525, vz23524_3, (hS.meet [0, 1, 2] (by decide) ⟨rfl, rfl, rfl, rfl, rfl, rfl, rfl, trivial⟩ ⟨rfl, rfl, rfl, trivial⟩ ⟨⟨4, rfl⟩, ⟨3, rfl⟩, trivial⟩), hM⟩
                  · skip
                    skip
                    refine id (k_callm hS ci63 rfl rfl 1 rfl (dice_Next_c _ _ (hS.drop 1).dlt (DiceD.mk d22131 d22133) 6 _ _ (hS.boxRow 1 rfl) (hS.notin 1 rfl) (SlR.lent (i := 1) rfl (hS.get 1 rfl)) _ hu23521) fun _ w hR hk => ?_)
                    obtain ⟨vz23522_3, he, hrow, hRvz23522_3⟩ := hR
                    replace he := he.symm
                    subst he
                    refine ⟨[vz23522_3, .int .i64 u23521.2.At], hrow, fun a hS => ⟨stM rfl hk etBox, ?_⟩⟩
                    replace hS := hS.fact (SlF (Rep.int .i64) vz23522_3 u23521.2.L) (SlR.back (i := 1) rfl hRvz23522_3)
                    refine wpE_two (i := 0) (j := 6) rfl rfl (by kernel_rfl) rfl rfl ?_ ?_
                    · skip
                      skip
                      refine id (k_bslice (ps := [(0, .const (.int .i64 0)), (1, .const (.int .i64 1)), (2, .const (.int .i64 2)), (3, .const (.int .i64 4)), (4, .const (.int .i64 8)), (5, .const (.int .i64 16))]) hS el39 ze3 (zl := [.int .i64 0, .int .i64 0, .int .i64 0, .int .i64 0, .int .i64 0, .int .i64 0]) (by kernel_rfl) rfl (us := [[.int .i64 0], [.int .i64 1], [.int .i64 2], [.int .i64 4], [.int .i64 8], [.int .i64 16]]) ⟨rfl, ⟨rfl, ⟨rfl, ⟨rfl, ⟨rfl, ⟨rfl, trivial⟩⟩⟩⟩⟩⟩ (ws := [.int .i64 0, .int .i64 1, .int .i64 2, .int .i64 4, .int .i64 8, .int .i64 16]) rfl rfl rfl rfl fun b23523 a w hk hS => ⟨stN (hk), ?_⟩)
                      replace hS := hS.lit (R := (Rep.int .i64)) (us := [.int .i64 0, .int .i64 1, .int .i64 2, .int .i64 4, .int .i64 8, .int .i64 16]) (xs := [0, 1, 2, 4, 8, 16]) 0 rfl (by decide) ((RowsOk.one_ (R := (Rep.int .i64)) (x := 0) rfl).append ((RowsOk.one_ (R := (Rep.int .i64)) (x := 1) rfl).append ((RowsOk.one_ (R := (Rep.int .i64)) (x := 2) rfl).append ((RowsOk.one_ (R := (Rep.int .i64)) (x := 4) rfl).append ((RowsOk.one_ (R := (Rep.int .i64)) (x := 8) rfl).append (RowsOk.one_ (R := (Rep.int .i64)) (x := 16) rfl)))))) rfl rfl
                      replace hS := hS.freeze (R := (Rep.int .i64)) 0 rfl 0 rfl
                      obtain ⟨e23525, he23525, hM⟩ := bd hM
                      obtain ⟨b23526, o23527, cs23529, hr23528, hy23531, hS⟩ := d_index (R := (Rep.int .i64)) hS sl39 ty3 0 rfl he23525
                      obtain rfl := hr23528
                      refine dy 3 (v := .pointer (some ⟨b23526, o23527, none⟩)) rfl (by kernel_rfl) (by kernel_rfl) (by kernel_rfl) rfl hQ hS (hy23531 rfl rfl) rfl rfl rfl fun a hS => ?_
                      refine dy (l := [.blk (some b22129)]) 4 (v := .int .i64 e23525) rfl (by kernel_rfl) (by kernel_rfl) (by kernel_rfl) (by kernel_rfl) hQ hS (y_loadc (k := 0) hS ty3 0 rfl rfl (es_in 2 rfl rfl es_nil) (us := [.int .i64 e23525]) rfl rfl (fun _ => rfl)) rfl rfl rfl fun a hS => ?_
                      refine wpE_one (i := 6) rfl (by kernel_rfl) rfl (k_store hS rfl rfl (us := [.int .i64 5]) rfl ty3 2 rfl rfl rfl (oc rfl on) fun w hk hS => ⟨stM rfl hk etBox, ?_⟩)
                      refine dy 7 (v := .pointer (some ⟨b22129, 0 + 3, none⟩)) rfl (by kernel_rfl) (by kernel_rfl) (by kernel_rfl) rfl hQ hS (y_fld hS rfl fl48_3) rfl rfl rfl fun a hS => ?_
                      refine wpE_one (i := 8) rfl (by kernel_rfl) rfl (k_store hS rfl rfl (us := [.int .i64 e23525]) rfl ty3 2 rfl rfl rfl (oc rfl on) fun w hk hS => ⟨stM rfl hk etBox, ?_⟩)
                      refine wpE_done (by kernel_rfl) ?_ _
                      try simp only [Exit.then, Exit.inBlock, ↓reduceIte, Nat.reduceEqDiff]
                      exact ⟨u23521.2.L, u23521.2.At, 5, e23525, vz23522_3, (hS.meet [0, 1, 2] (by decide) ⟨rfl, rfl, rfl, rfl, rfl, rfl, rfl, trivial⟩ ⟨rfl, rfl, rfl, trivial⟩ ⟨⟨4, rfl⟩, ⟨3, rfl⟩, trivial⟩), hM⟩
                    · skip
                      skip
                      refine id (k_store hS rfl rfl (us := [.int .i64 5]) rfl ty3 2 rfl rfl rfl (oc rfl on) fun w hk hS => ⟨stM rfl hk etBox, ?_⟩)
                      refine wpE_one (i := 0) rfl (by kernel_rfl) rfl (k_bslice (ps := [(0, .const (.int .i64 0)), (1, .const (.int .i64 1)), (2, .const (.int .i64 2)), (3, .const (.int .i64 4)), (4, .const (.int .i64 8)), (5, .const (.int .i64 16))]) hS el39 ze3 (zl := [.int .i64 0, .int .i64 0, .int .i64 0, .int .i64 0, .int .i64 0, .int .i64 0]) (by kernel_rfl) rfl (us := [[.int .i64 0], [.int .i64 1], [.int .i64 2], [.int .i64 4], [.int .i64 8], [.int .i64 16]]) ⟨rfl, ⟨rfl, ⟨rfl, ⟨rfl, ⟨rfl, ⟨rfl, trivial⟩⟩⟩⟩⟩⟩ (ws := [.int .i64 0, .int .i64 1, .int .i64 2, .int .i64 4, .int .i64 8, .int .i64 16]) rfl rfl rfl rfl fun b23523 a w hk hS => ⟨stN (hk), ?_⟩)
                      replace hS := hS.lit (R := (Rep.int .i64)) (us := [.int .i64 0, .int .i64 1, .int .i64 2, .int .i64 4, .int .i64 8, .int .i64 16]) (xs := [0, 1, 2, 4, 8, 16]) 0 rfl (by decide) ((RowsOk.one_ (R := (Rep.int .i64)) (x := 0) rfl).append ((RowsOk.one_ (R := (Rep.int .i64)) (x := 1) rfl).append ((RowsOk.one_ (R := (Rep.int .i64)) (x := 2) rfl).append ((RowsOk.one_ (R := (Rep.int .i64)) (x := 4) rfl).append ((RowsOk.one_ (R := (Rep.int .i64)) (x := 8) rfl).append (RowsOk.one_ (R := (Rep.int .i64)) (x := 16) rfl)))))) rfl rfl
                      replace hS := hS.freeze (R := (Rep.int .i64)) 0 rfl 0 rfl
                      obtain ⟨e23525, he23525, hM⟩ := bd hM
                      obtain ⟨b23526, o23527, cs23529, hr23528, hy23531, hS⟩ := d_index (R := (Rep.int .i64)) hS sl39 ty3 0 rfl he23525
                      obtain rfl := hr23528
                      refine dy 3 (v := .pointer (some ⟨b23526, o23527, none⟩)) rfl (by kernel_rfl) (by kernel_rfl) (by kernel_rfl) rfl hQ hS (hy23531 rfl rfl) rfl rfl rfl fun a hS => ?_
                      refine dy (l := []) 4 (v := .int .i64 e23525) rfl (by kernel_rfl) (by kernel_rfl) (by kernel_rfl) (by kernel_rfl) hQ hS (y_loadc (k := 0) hS ty3 0 rfl rfl es_nil (us := [.int .i64 e23525]) rfl rfl (fun _ => rfl)) rfl rfl rfl fun a hS => ?_
                      refine dy 7 (v := .pointer (some ⟨b22129, 0 + 3, none⟩)) rfl (by kernel_rfl) (by kernel_rfl) (by kernel_rfl) rfl hQ hS (y_fld hS rfl fl48_3) rfl rfl rfl fun a hS => ?_
                      refine wpE_one (i := 8) rfl (by kernel_rfl) rfl (k_store hS rfl rfl (us := [.int .i64 e23525]) rfl ty3 2 rfl rfl rfl (oc rfl on) fun w hk hS => ⟨stM rfl hk etBox, ?_⟩)
                      refine wpE_done (by kernel_rfl) ?_ _
                      try simp only [Exit.then, Exit.inBlock, ↓reduceIte, Nat.reduceEqDiff]
                      exact ⟨u23521.2.L, u23521.2.At, 5, e23525, vz23522_3, (hS.meet [0, 1, 2] (by decide) ⟨rfl, rfl, rfl, rfl, rfl, rfl, rfl, trivial⟩ ⟨rfl, rfl, rfl, trivial⟩ ⟨⟨4, rfl⟩, ⟨3, rfl⟩, trivial⟩), hM⟩
                · replace hM := cf hb23509 hM
                  refine c_f hS rfl hb23509 ?_
                  refine wp_skip ?_
                  try simp only [Exit.then, Exit.inBlock, ↓reduceIte, Nat.reduceEqDiff]
                  exact ⟨d22131, d22133, r22135, r22136, v22132, (hS.meet [0, 1, 2] (by decide) ⟨rfl, rfl, rfl, rfl, rfl, rfl, rfl, trivial⟩ ⟨rfl, rfl, rfl, trivial⟩ ⟨⟨0, rfl⟩, ⟨1, rfl⟩, trivial⟩), hM⟩
              · rintro a w ⟨d22160, d22162, r22163, r22164, v22161, hS, hM⟩
                unfold mill_Rules_j12 at hM
                refine seq_j (J := fun a w => ∃ (d22701 : (List Int)) (d22703 : Int) (r22704 : (List AskD)) (v22705 : Value) (cl22706 : (List Value)) (v22702 : Value), St W0 (fun k => k = b1) T 132 [(0, .pointer (some ⟨b1, 0, none⟩)), (3, v10456), (5, .int .i64 g18185), (8, .pointer (some ⟨b22129, 0, none⟩)), (27, .int .i64 (l10455.length : Int)), (28, .int .i64 g18185)] [.own v10456 48 R_RuleD.size cl18184, .box b1 [v22702, .int .i64 d22703] 104, .own v22705 55 R_AskD.size cl22706, .box b22129 [.bool r22134, v22705, .int .i64 r22163, .int .i64 r22164] 48] [RowsF R_RuleD cl18184 l18183, SlF (Rep.int .i64) v22702 d22701, RowsF R_AskD cl22706 r22704] a w ∧ mill_Rules_j3 l18183 g18185 r22134 r22163 r22164 d22701 d22703 r22704 = some f1) ?_ ?_
                · skip
                  refine wp_seq_k fun K891 hK891 => ?_
                  refine r_list ?_
                  refine wl rfl (ky (v := .pointer (some ⟨b1, 0, none⟩)) hS (y_move hS rfl) rfl rfl fun a hS => ?_)
                  obtain ⟨u22718, hu22718, hM⟩ := bd hM
                  refine wl rfl (k_callm hS ci63 rfl rfl 1 rfl (dice_Next_c _ _ (hS.drop 1).dlt (DiceD.mk d22160 d22162) 4 _ _ (hS.boxRow 1 rfl) (hS.notin 1 rfl) (SlR.lent (i := 1) rfl (hS.get 1 rfl)) _ hu22718) fun _ w hR hk => ?_)
                  obtain ⟨vz22719_3, he, hrow, hRvz22719_3⟩ := hR
                  replace he := he.symm
                  subst he
                  refine ⟨[vz22719_3, .int .i64 u22718.2.At], hrow, fun a hS => ?_⟩
                  replace hS := hS.fact (SlF (Rep.int .i64) vz22719_3 u22718.2.L) (SlR.back (i := 1) rfl hRvz22719_3)
                  refine wl rfl (ky (v := .int .i64 u22718.1) hS (y_assign hS rfl) rfl rfl fun a hS => ?_)
                  refine wpList_nil ?_
                  try simp only [Exit.then, Exit.inBlock, ↓reduceIte, Nat.reduceEqDiff]
                  refine hK891 _ _ ?_
                  refine wp_block ?_
                  replace hS := hS.nilRow R_AskD 55 (by decide)
                  obtain ⟨r2, hl2, hMo2⟩ := bd hM
                  refine wp_lp (fun s : Int × (List Int) × Int × (List AskD) => mill_Rules_l11 b22056 r22134 s.1 s.2.1 s.2.2.1 s.2.2.2) (fun s a w => ∃ (k22984 : Int) (d22985 : (List Int)) (d22987 : Int) (r22988 : (List AskD)) (v22989 : Value) (cl22990 : (List Value)) (v22986 : Value), (k22984, d22985, d22987, r22988) = s ∧ St W0 (fun k => k = b1) T 132 [(0, .pointer (some ⟨b1, 0, none⟩)), (3, v10456), (5, .int .i64 g18185), (7, .int .i64 b22056), (8, .pointer (some ⟨b22129, 0, none⟩)), (9, .int .i64 k22984), (27, .int .i64 (l10455.length : Int)), (28, .int .i64 g18185)] [.own v10456 48 R_RuleD.size cl18184, .box b1 [v22986, .int .i64 d22987] 104, .own v22989 55 R_AskD.size cl22990, .box b22129 [.bool r22134, v22989, .int .i64 r22163, .int .i64 r22164] 48] [RowsF R_RuleD cl18184 l18183, SlF (Rep.int .i64) v22986 d22985, RowsF R_AskD cl22990 r22988] a w) hl2 ⟨u22718.1, u22718.2.L, u22718.2.At, ([] : List AskD), (.slice none 0 0), ([]), vz22719_3, rfl, (hS.meet [1, 2, 0, 3] (by decide) ⟨rfl, rfl, rfl, rfl, rfl, rfl, rfl, rfl, trivial⟩ ⟨rfl, rfl, rfl, rfl, trivial⟩ ⟨⟨2, rfl⟩, ⟨1, rfl⟩, ⟨0, rfl⟩, trivial⟩)⟩ ?_
                  rintro s a w f2 ⟨k22984, d22985, d22987, r22988, v22989, cl22990, v22986, rfl, hS⟩ hM hf2
                  have hM : mill_Rules_l11 b22056 r22134 k22984 d22985 d22987 r22988 = some f2 := hM
                  unfold mill_Rules_l11 at hM
                  refine wp_seq_k fun K912 hK912 => ?_
                  refine wp_seq_k fun K913 hK913 => ?_
                  refine r_list ?_
                  refine wl rfl (ky (v := .int .i64 k22984) hS (y_move hS rfl) rfl rfl fun a hS => ?_)
                  refine wl rfl (ky (v := .bool (decide ((0 : Int) < k22984))) hS (y_int hS rfl rfl rfl) rfl rfl fun a hS => ?_)
                  refine wpList_nil ?_
                  try simp only [Exit.then, Exit.inBlock, ↓reduceIte, Nat.reduceEqDiff]
                  refine hK913 _ _ ?_
                  rcases bool2 (decide ((0 : Int) < k22984)) with hb23255 | hb23255
                  · replace hM := ct hb23255 hM
                    refine c_t hS rfl hb23255 ?_
                    refine wp_skip ?_
                    try simp only [Exit.then, Exit.inBlock, ↓reduceIte, Nat.reduceEqDiff]
                    refine hK912 _ _ ?_
                    refine seq_j (J := fun a w => ∃ (d23379 : (List Int)) (d23381 : Int) (r23382 : (List AskD)) (v23383 : Value) (cl23384 : (List Value)) (v23380 : Value), St W0 (fun k => k = b1) T 132 [(0, .pointer (some ⟨b1, 0, none⟩)), (3, v10456), (5, .int .i64 g18185), (7, .int .i64 b22056), (8, .pointer (some ⟨b22129, 0, none⟩)), (9, .int .i64 k22984), (27, .int .i64 (l10455.length : Int)), (28, .int .i64 g18185)] [.own v10456 48 R_RuleD.size cl18184, .box b1 [v23380, .int .i64 d23381] 104, .own v23383 55 R_AskD.size cl23384, .box b22129 [.bool r22134, v23383, .int .i64 r22163, .int .i64 r22164] 48] [RowsF R_RuleD cl18184 l18183, SlF (Rep.int .i64) v23380 d23379, RowsF R_AskD cl23384 r23382] a w ∧ mill_Rules_j4 k22984 d23379 d23381 r23382 = some f2) ?_ ?_
                    · skip
                      refine wp_block ?_
                      refine seq_j (J := fun a w => ∃ (d23406 : (List Int)) (d23408 : Int) (x23409 : Bool) (b23404 : Nat) (v23407 : Value), St W0 (fun k => k = b1) T 132 [(0, .pointer (some ⟨b1, 0, none⟩)), (3, v10456), (5, .int .i64 g18185), (7, .int .i64 b22056), (8, .pointer (some ⟨b22129, 0, none⟩)), (9, .int .i64 k22984), (10, .pointer (some ⟨b23404, 0, none⟩)), (27, .int .i64 (l10455.length : Int)), (28, .int .i64 g18185)] [.own v10456 48 R_RuleD.size cl18184, .box b1 [v23407, .int .i64 d23408] 104, .own v22989 55 R_AskD.size cl22990, .box b22129 [.bool r22134, v22989, .int .i64 r22163, .int .i64 r22164] 48, .box b23404 [.bool x23409, .bool false, .int .i64 0, .int .i64 0] 55] [RowsF R_RuleD cl18184 l18183, SlF (Rep.int .i64) v23407 d23406, RowsF R_AskD cl22990 r22988] a w ∧ mill_Rules_j10 b22056 r22134 k22984 r22988 d23406 d23408 x23409 = some f2) ?_ ?_
                      · skip
                        refine r_list ?_
                        refine wl rfl (ky (v := .pointer (some ⟨b1, 0, none⟩)) hS (y_move hS rfl) rfl rfl fun a hS => ?_)
                        obtain ⟨u23500, hu23500, hM⟩ := bd hM
                        refine wl rfl (k_callm hS ci63 rfl rfl 1 rfl (dice_Next_c _ _ (hS.drop 1).dlt (DiceD.mk d22985 d22987) 3 _ _ (hS.boxRow 1 rfl) (hS.notin 1 rfl) (SlR.lent (i := 1) rfl (hS.get 1 rfl)) _ hu23500) fun _ w hR hk => ?_)
                        obtain ⟨vz23501_3, he, hrow, hRvz23501_3⟩ := hR
                        replace he := he.symm
                        subst he
                        refine ⟨[vz23501_3, .int .i64 u23500.2.At], hrow, fun a hS => ?_⟩
                        replace hS := hS.fact (SlF (Rep.int .i64) vz23501_3 u23500.2.L) (SlR.back (i := 1) rfl hRvz23501_3)
                        refine wl rfl (ky (v := .bool ((u23500.1 : Int) == 0)) hS (y_int hS rfl rfl rfl) rfl rfl fun a hS => ?_)
                        refine wl rfl (ky (v := .bool ((u23500.1 : Int) == 0)) hS (y_move hS rfl) rfl rfl fun a hS => ?_)
                        rcases bool2 ((u23500.1 : Int) == 0) with hb23502 | hb23502
                        · replace hM := ct hb23502 hM
                          refine wn hS rfl rfl rfl hb23502 rfl rfl fun a hS => ?_
                          refine wn hS rfl rfl rfl hb23502 rfl rfl fun a hS => ?_
                          refine wl rfl (ky (v := .bool true) hS (y_pickt hS rfl hb23502 rfl) rfl rfl fun a hS => ?_)
                          refine wl rfl (ky (v := .agg #[.bool true, .bool false, .int .i64 0, .int .i64 0]) hS (y_build (ps := [(0, .tmp 76)]) hS pl55 ze55 rfl (us := [[.bool true]]) ⟨rfl, trivial⟩ (ws := [.bool true, .bool false, .int .i64 0, .int .i64 0]) rfl) rfl rfl fun a hS => ?_)
                          refine wl rfl (k_alloc hS ze55 rfl fun b23503 hnb23505 a w hk hS => ?_)
                          refine wl rfl (k_store hS rfl rfl (us := [.bool true, .bool false, .int .i64 0, .int .i64 0]) rfl ty55 0 rfl rfl rfl (oc rfl (oc rfl (oc rfl (oc rfl on)))) fun w hk hS => ?_)
                          refine wpList_nil ?_
                          try simp only [Exit.then, Exit.inBlock, ↓reduceIte, Nat.reduceEqDiff]
                          exact ⟨u23500.2.L, u23500.2.At, true, b23503, vz23501_3, (hS.meet [1, 2, 3, 4, 0] (by decide) ⟨rfl, rfl, rfl, rfl, rfl, rfl, rfl, rfl, rfl, trivial⟩ ⟨rfl, rfl, rfl, rfl, rfl, trivial⟩ ⟨⟨1, rfl⟩, ⟨0, rfl⟩, ⟨3, rfl⟩, trivial⟩), hM⟩
                        · replace hM := cf hb23502 hM
                          refine wg hS rfl rfl rfl hb23502 (ky (v := .int .i64 b22056) hS (y_move hS rfl) rfl rfl fun a hS => ?_)
                          refine wg hS rfl rfl rfl hb23502 (ky (v := .bool ((b22056 : Int) == 0)) hS (y_int hS rfl rfl rfl) rfl rfl fun a hS => ?_)
                          refine wl rfl (ky (v := .bool ((b22056 : Int) == 0)) hS (y_pickf hS rfl hb23502 rfl) rfl rfl fun a hS => ?_)
                          refine wl rfl (ky (v := .agg #[.bool ((b22056 : Int) == 0), .bool false, .int .i64 0, .int .i64 0]) hS (y_build (ps := [(0, .tmp 76)]) hS pl55 ze55 rfl (us := [[.bool ((b22056 : Int) == 0)]]) ⟨rfl, trivial⟩ (ws := [.bool ((b22056 : Int) == 0), .bool false, .int .i64 0, .int .i64 0]) rfl) rfl rfl fun a hS => ?_)
                          refine wl rfl (k_alloc hS ze55 rfl fun b23506 hnb23508 a w hk hS => ?_)
                          refine wl rfl (k_store hS rfl rfl (us := [.bool ((b22056 : Int) == 0), .bool false, .int .i64 0, .int .i64 0]) rfl ty55 0 rfl rfl rfl (oc rfl (oc rfl (oc rfl (oc rfl on)))) fun w hk hS => ?_)
                          refine wpList_nil ?_
                          try simp only [Exit.then, Exit.inBlock, ↓reduceIte, Nat.reduceEqDiff]
                          exact ⟨u23500.2.L, u23500.2.At, ((b22056 : Int) == 0), b23506, vz23501_3, (hS.meet [1, 2, 3, 4, 0] (by decide) ⟨rfl, rfl, rfl, rfl, rfl, rfl, rfl, rfl, rfl, trivial⟩ ⟨rfl, rfl, rfl, rfl, rfl, trivial⟩ ⟨⟨1, rfl⟩, ⟨0, rfl⟩, ⟨3, rfl⟩, trivial⟩), hM⟩
                      · rintro a w ⟨d23406, d23408, x23409, b23404, v23407, hS, hM⟩
                        unfold mill_Rules_j10 at hM
                        refine wp_seq_k fun K918 hK918 => ?_
                        refine r_list ?_
                        refine wl rfl (ky (v := .int .i64 b22056) hS (y_move hS rfl) rfl rfl fun a hS => ?_)
                        refine wl rfl (ky (v := .int .i64 b22056) hS (y_assign hS rfl) rfl rfl fun a hS => ?_)
                        refine wpList_nil ?_
                        try simp only [Exit.then, Exit.inBlock, ↓reduceIte, Nat.reduceEqDiff]
                        refine hK918 _ _ ?_
                        refine seq_j (J := fun a w => ∃ (most23411 : Int), St W0 (fun k => k = b1) T 132 [(0, .pointer (some ⟨b1, 0, none⟩)), (3, v10456), (5, .int .i64 g18185), (7, .int .i64 b22056), (8, .pointer (some ⟨b22129, 0, none⟩)), (9, .int .i64 k22984), (10, .pointer (some ⟨b23404, 0, none⟩)), (11, .int .i64 most23411), (27, .int .i64 (l10455.length : Int)), (28, .int .i64 g18185)] [.own v10456 48 R_RuleD.size cl18184, .box b1 [v23407, .int .i64 d23408] 104, .own v22989 55 R_AskD.size cl22990, .box b22129 [.bool r22134, v22989, .int .i64 r22163, .int .i64 r22164] 48, .box b23404 [.bool x23409, .bool false, .int .i64 0, .int .i64 0] 55] [RowsF R_RuleD cl18184 l18183, SlF (Rep.int .i64) v23407 d23406, RowsF R_AskD cl22990 r22988] a w ∧ mill_Rules_j9 r22134 k22984 r22988 d23406 d23408 x23409 most23411 = some f2) ?_ ?_
                        · skip
                          refine wp_seq_k fun K921 hK921 => ?_
                          refine r_list ?_
                          refine wl rfl (ky (v := .pointer (some ⟨b23404, 0 + 0, none⟩)) hS (y_fld hS rfl fl55_0) rfl rfl fun a hS => ?_)
                          refine wl rfl (ky (v := .bool x23409) hS (y_load hS rfl ty4 4 rfl id (us := [.bool x23409]) rfl rfl (fun _ => rfl)) rfl rfl fun a hS => ?_)
                          refine wpList_nil ?_
                          try simp only [Exit.then, Exit.inBlock, ↓reduceIte, Nat.reduceEqDiff]
                          refine hK921 _ _ ?_
                          rcases bool2 (x23409) with hb23499 | hb23499
                          · replace hM := ct hb23499 hM
                            refine c_t hS rfl hb23499 ?_
                            refine r_list ?_
                            refine wl rfl (ky (v := .int .i64 4) hS (y_assign hS rfl) rfl rfl fun a hS => ?_)
                            refine wpList_nil ?_
                            try simp only [Exit.then, Exit.inBlock, ↓reduceIte, Nat.reduceEqDiff]
                            exact ⟨4, (hS.meet [0, 1, 2, 3, 4] (by decide) ⟨rfl, rfl, rfl, rfl, rfl, rfl, rfl, rfl, rfl, rfl, trivial⟩ ⟨rfl, rfl, rfl, rfl, rfl, trivial⟩ ⟨⟨0, rfl⟩, ⟨1, rfl⟩, ⟨2, rfl⟩, trivial⟩), hM⟩
                          · replace hM := cf hb23499 hM
                            refine c_f hS rfl hb23499 ?_
                            refine wp_skip ?_
                            try simp only [Exit.then, Exit.inBlock, ↓reduceIte, Nat.reduceEqDiff]
                            exact ⟨b22056, (hS.meet [0, 1, 2, 3, 4] (by decide) ⟨rfl, rfl, rfl, rfl, rfl, rfl, rfl, rfl, rfl, rfl, trivial⟩ ⟨rfl, rfl, rfl, rfl, rfl, trivial⟩ ⟨⟨0, rfl⟩, ⟨1, rfl⟩, ⟨2, rfl⟩, trivial⟩), hM⟩
                        · rintro a w ⟨most23411, hS, hM⟩
                          unfold mill_Rules_j9 at hM
                          refine wp_seq_k fun K920 hK920 => ?_
                          refine r_list ?_
                          refine wl rfl (ky (v := .pointer (some ⟨b1, 0, none⟩)) hS (y_move hS rfl) rfl rfl fun a hS => ?_)
                          refine wl rfl (ky (v := .int .i64 most23411) hS (y_move hS rfl) rfl rfl fun a hS => ?_)
                          obtain ⟨u23412, hu23412, hM⟩ := bd hM
                          refine wl rfl (k_callm hS ci63 rfl rfl 1 rfl (dice_Next_c _ _ (hS.drop 1).dlt (DiceD.mk d23406 d23408) most23411 _ _ (hS.boxRow 1 rfl) (hS.notin 1 rfl) (SlR.lent (i := 1) rfl (hS.get 1 rfl)) _ hu23412) fun _ w hR hk => ?_)
                          obtain ⟨vz23413_3, he, hrow, hRvz23413_3⟩ := hR
                          replace he := he.symm
                          subst he
                          refine ⟨[vz23413_3, .int .i64 u23412.2.At], hrow, fun a hS => ?_⟩
                          replace hS := hS.fact (SlF (Rep.int .i64) vz23413_3 u23412.2.L) (SlR.back (i := 1) rfl hRvz23413_3)
                          refine wl rfl (ky (v := .pointer (some ⟨b23404, 0 + 2, none⟩)) hS (y_fld hS rfl fl55_2) rfl rfl fun a hS => ?_)
                          refine wl rfl (k_store hS rfl rfl (us := [.int .i64 u23412.1]) rfl ty3 4 rfl rfl rfl (oc rfl on) fun w hk hS => ?_)
                          refine wpList_nil ?_
                          try simp only [Exit.then, Exit.inBlock, ↓reduceIte, Nat.reduceEqDiff]
                          refine hK920 _ _ ?_
                          refine seq_j (J := fun a w => ∃ (d23430 : (List Int)) (d23432 : Int) (x23433 : Int) (v23431 : Value), St W0 (fun k => k = b1) T 132 [(0, .pointer (some ⟨b1, 0, none⟩)), (3, v10456), (5, .int .i64 g18185), (7, .int .i64 b22056), (8, .pointer (some ⟨b22129, 0, none⟩)), (9, .int .i64 k22984), (10, .pointer (some ⟨b23404, 0, none⟩)), (11, .int .i64 most23411), (27, .int .i64 (l10455.length : Int)), (28, .int .i64 g18185)] [.own v10456 48 R_RuleD.size cl18184, .box b1 [v23431, .int .i64 d23432] 104, .own v22989 55 R_AskD.size cl22990, .box b22129 [.bool r22134, v22989, .int .i64 r22163, .int .i64 r22164] 48, .box b23404 [.bool x23409, .bool false, .int .i64 x23433, .int .i64 0] 55] [RowsF R_RuleD cl18184 l18183, SlF (Rep.int .i64) v23431 d23430, RowsF R_AskD cl22990 r22988] a w ∧ mill_Rules_j7 r22134 k22984 r22988 x23409 most23411 d23430 d23432 x23433 = some f2) ?_ ?_
                          · skip
                            refine seq_j (J := fun a w => ∃ (g23489 : Bool) (d23490 : (List Int)) (d23492 : Int) (v23491 : Value), St W0 (fun k => k = b1) T 132 [(0, .pointer (some ⟨b1, 0, none⟩)), (3, v10456), (5, .int .i64 g18185), (7, .int .i64 b22056), (8, .pointer (some ⟨b22129, 0, none⟩)), (9, .int .i64 k22984), (10, .pointer (some ⟨b23404, 0, none⟩)), (11, .int .i64 most23411), (27, .int .i64 (l10455.length : Int)), (28, .int .i64 g18185), (92, .bool g23489)] [.own v10456 48 R_RuleD.size cl18184, .box b1 [v23491, .int .i64 d23492] 104, .own v22989 55 R_AskD.size cl22990, .box b22129 [.bool r22134, v22989, .int .i64 r22163, .int .i64 r22164] 48, .box b23404 [.bool x23409, .bool false, .int .i64 u23412.1, .int .i64 0] 55] [RowsF R_RuleD cl18184 l18183, SlF (Rep.int .i64) v23491 d23490, RowsF R_AskD cl22990 r22988] a w ∧ mill_Rules_j8 r22134 k22984 r22988 x23409 most23411 u23412 g23489 d23490 d23492 = some f2) ?_ ?_
                            · skip
                              refine r_list ?_
                              refine wl rfl (ky (v := .pointer (some ⟨b23404, 0 + 0, none⟩)) hS (y_fld hS rfl fl55_0) rfl rfl fun a hS => ?_)
                              refine wl rfl (ky (v := .bool x23409) hS (y_load hS rfl ty4 4 rfl id (us := [.bool x23409]) rfl rfl (fun _ => rfl)) rfl rfl fun a hS => ?_)
                              refine wl rfl (ky (v := .bool (!(x23409))) hS (y_not hS rfl) rfl rfl fun a hS => ?_)
                              refine wl rfl (ky (v := .bool (!(x23409))) hS (y_move hS rfl) rfl rfl fun a hS => ?_)
                              rcases bool2 (!(x23409)) with hb23496 | hb23496
                              · replace hM := ct hb23496 hM
                                refine wg hS rfl rfl rfl hb23496 (ky (v := .pointer (some ⟨b1, 0, none⟩)) hS (y_move hS rfl) rfl rfl fun a hS => ?_)
                                obtain ⟨u23497, hu23497, hM⟩ := bd hM
                                refine wg hS rfl rfl rfl hb23496 (k_callm hS ci63 rfl rfl 1 rfl (dice_Next_c _ _ (hS.drop 1).dlt (DiceD.mk u23412.2.L u23412.2.At) 2 _ _ (hS.boxRow 1 rfl) (hS.notin 1 rfl) (SlR.lent (i := 1) rfl (hS.get 0 rfl)) _ hu23497) fun _ w hR hk => ?_)
                                obtain ⟨vz23498_3, he, hrow, hRvz23498_3⟩ := hR
                                replace he := he.symm
                                subst he
                                refine ⟨[vz23498_3, .int .i64 u23497.2.At], hrow, fun a hS => ?_⟩
                                replace hS := hS.fact (SlF (Rep.int .i64) vz23498_3 u23497.2.L) (SlR.back (i := 1) rfl hRvz23498_3)
                                refine wg hS rfl rfl rfl hb23496 (ky (v := .bool ((u23497.1 : Int) == 0)) hS (y_int hS rfl rfl rfl) rfl rfl fun a hS => ?_)
                                refine wl rfl (ky (v := .bool ((u23497.1 : Int) == 0)) hS (y_pickt hS rfl hb23496 rfl) rfl rfl fun a hS => ?_)
                                refine wpList_nil ?_
                                try simp only [Exit.then, Exit.inBlock, ↓reduceIte, Nat.reduceEqDiff]
                                exact ⟨((u23497.1 : Int) == 0), u23497.2.L, u23497.2.At, vz23498_3, (hS.meet [0, 1, 2, 3, 4] (by decide) ⟨rfl, rfl, rfl, rfl, rfl, rfl, rfl, rfl, rfl, rfl, rfl, trivial⟩ ⟨rfl, rfl, rfl, rfl, rfl, trivial⟩ ⟨⟨2, rfl⟩, ⟨0, rfl⟩, ⟨4, rfl⟩, trivial⟩), hM⟩
                              · replace hM := cf hb23496 hM
                                refine wn hS rfl rfl rfl hb23496 rfl rfl fun a hS => ?_
                                refine wn hS rfl rfl rfl hb23496 rfl rfl fun a hS => ?_
                                refine wn hS rfl rfl rfl hb23496 rfl rfl fun a hS => ?_
                                refine wl rfl (ky (v := .bool false) hS (y_pickf hS rfl hb23496 rfl) rfl rfl fun a hS => ?_)
                                refine wpList_nil ?_
                                try simp only [Exit.then, Exit.inBlock, ↓reduceIte, Nat.reduceEqDiff]
                                exact ⟨false, u23412.2.L, u23412.2.At, vz23413_3, (hS.meet [0, 1, 2, 3, 4] (by decide) ⟨rfl, rfl, rfl, rfl, rfl, rfl, rfl, rfl, rfl, rfl, rfl, trivial⟩ ⟨rfl, rfl, rfl, rfl, rfl, trivial⟩ ⟨⟨1, rfl⟩, ⟨0, rfl⟩, ⟨3, rfl⟩, trivial⟩), hM⟩
                            · rintro a w ⟨g23489, d23490, d23492, v23491, hS, hM⟩
                              unfold mill_Rules_j8 at hM
                              rcases bool2 (g23489) with hb23493 | hb23493
                              · replace hM := ct hb23493 hM
                                refine c_t hS rfl hb23493 ?_
                                refine r_list ?_
                                refine wl rfl (ky (v := .int .i64 most23411) hS (y_move hS rfl) rfl rfl fun a hS => ?_)
                                refine wl rfl (ky (v := .int .i64 (IntKind.i64.wrap (most23411 - 1))) hS (y_int hS rfl rfl rfl) rfl rfl fun a hS => ?_)
                                refine wl rfl (ky (v := .pointer (some ⟨b1, 0, none⟩)) hS (y_move hS rfl) rfl rfl fun a hS => ?_)
                                refine wl rfl (ky (v := .int .i64 most23411) hS (y_move hS rfl) rfl rfl fun a hS => ?_)
                                refine wl rfl (ky (v := .int .i64 (min most23411 3)) hS (y_min hS rfl rfl) rfl rfl fun a hS => ?_)
                                obtain ⟨u23494, hu23494, hM⟩ := bd hM
                                refine wl rfl (k_callm hS ci63 rfl rfl 1 rfl (dice_Next_c _ _ (hS.drop 1).dlt (DiceD.mk d23490 d23492) (min most23411 3) _ _ (hS.boxRow 1 rfl) (hS.notin 1 rfl) (SlR.lent (i := 1) rfl (hS.get 1 rfl)) _ hu23494) fun _ w hR hk => ?_)
                                obtain ⟨vz23495_3, he, hrow, hRvz23495_3⟩ := hR
                                replace he := he.symm
                                subst he
                                refine ⟨[vz23495_3, .int .i64 u23494.2.At], hrow, fun a hS => ?_⟩
                                replace hS := hS.fact (SlF (Rep.int .i64) vz23495_3 u23494.2.L) (SlR.back (i := 1) rfl hRvz23495_3)
                                refine wl rfl (ky (v := .int .i64 (IntKind.i64.wrap ((IntKind.i64.wrap (most23411 - 1)) - u23494.1))) hS (y_int hS rfl rfl rfl) rfl rfl fun a hS => ?_)
                                refine wl rfl (ky (v := .pointer (some ⟨b23404, 0 + 2, none⟩)) hS (y_fld hS rfl fl55_2) rfl rfl fun a hS => ?_)
                                refine wl rfl (k_store hS rfl rfl (us := [.int .i64 (IntKind.i64.wrap ((IntKind.i64.wrap (most23411 - 1)) - u23494.1))]) rfl ty3 4 rfl rfl rfl (oc rfl on) fun w hk hS => ?_)
                                refine wpList_nil ?_
                                try simp only [Exit.then, Exit.inBlock, ↓reduceIte, Nat.reduceEqDiff]
                                exact ⟨u23494.2.L, u23494.2.At, (IntKind.i64.wrap ((IntKind.i64.wrap (most23411 - 1)) - u23494.1)), vz23495_3, (hS.meet [0, 1, 2, 3, 4] (by decide) ⟨rfl, rfl, rfl, rfl, rfl, rfl, rfl, rfl, rfl, rfl, trivial⟩ ⟨rfl, rfl, rfl, rfl, rfl, trivial⟩ ⟨⟨1, rfl⟩, ⟨0, rfl⟩, ⟨3, rfl⟩, trivial⟩), hM⟩
                              · replace hM := cf hb23493 hM
                                refine c_f hS rfl hb23493 ?_
                                refine wp_skip ?_
                                try simp only [Exit.then, Exit.inBlock, ↓reduceIte, Nat.reduceEqDiff]
                                exact ⟨d23490, d23492, u23412.1, v23491, (hS.meet [0, 1, 2, 3, 4] (by decide) ⟨rfl, rfl, rfl, rfl, rfl, rfl, rfl, rfl, rfl, rfl, trivial⟩ ⟨rfl, rfl, rfl, rfl, rfl, trivial⟩ ⟨⟨0, rfl⟩, ⟨1, rfl⟩, ⟨2, rfl⟩, trivial⟩), hM⟩
                          · rintro a w ⟨d23430, d23432, x23433, v23431, hS, hM⟩
                            unfold mill_Rules_j7 at hM
                            refine seq_j (J := fun a w => ∃ (d23453 : (List Int)) (d23455 : Int) (x23456 : Bool) (x23457 : Int) (v23454 : Value), St W0 (fun k => k = b1) T 132 [(0, .pointer (some ⟨b1, 0, none⟩)), (3, v10456), (5, .int .i64 g18185), (7, .int .i64 b22056), (8, .pointer (some ⟨b22129, 0, none⟩)), (9, .int .i64 k22984), (10, .pointer (some ⟨b23404, 0, none⟩)), (27, .int .i64 (l10455.length : Int)), (28, .int .i64 g18185)] [.own v10456 48 R_RuleD.size cl18184, .box b1 [v23454, .int .i64 d23455] 104, .own v22989 55 R_AskD.size cl22990, .box b22129 [.bool r22134, v22989, .int .i64 r22163, .int .i64 r22164] 48, .box b23404 [.bool x23409, .bool x23456, .int .i64 x23433, .int .i64 x23457] 55] [RowsF R_RuleD cl18184 l18183, SlF (Rep.int .i64) v23454 d23453, RowsF R_AskD cl22990 r22988] a w ∧ mill_Rules_j5 k22984 r22988 x23409 x23433 d23453 d23455 x23456 x23457 = some f2) ?_ ?_
                            · skip
                              refine seq_j (J := fun a w => ∃ (g23472 : Bool) (d23473 : (List Int)) (d23475 : Int) (v23474 : Value), St W0 (fun k => k = b1) T 132 [(0, .pointer (some ⟨b1, 0, none⟩)), (3, v10456), (5, .int .i64 g18185), (7, .int .i64 b22056), (8, .pointer (some ⟨b22129, 0, none⟩)), (9, .int .i64 k22984), (10, .pointer (some ⟨b23404, 0, none⟩)), (11, .int .i64 most23411), (27, .int .i64 (l10455.length : Int)), (28, .int .i64 g18185), (114, .bool g23472)] [.own v10456 48 R_RuleD.size cl18184, .box b1 [v23474, .int .i64 d23475] 104, .own v22989 55 R_AskD.size cl22990, .box b22129 [.bool r22134, v22989, .int .i64 r22163, .int .i64 r22164] 48, .box b23404 [.bool x23409, .bool false, .int .i64 x23433, .int .i64 0] 55] [RowsF R_RuleD cl18184 l18183, SlF (Rep.int .i64) v23474 d23473, RowsF R_AskD cl22990 r22988] a w ∧ mill_Rules_j6 k22984 r22988 x23409 most23411 x23433 g23472 d23473 d23475 = some f2) ?_ ?_
                              · skip
                                refine r_list ?_
                                refine wl rfl (ky (v := .pointer (some ⟨b22129, 0 + 0, none⟩)) hS (y_fld hS rfl fl48_0) rfl rfl fun a hS => ?_)
                                refine wl rfl (ky (v := .bool r22134) hS (y_load hS rfl ty4 3 rfl id (us := [.bool r22134]) rfl rfl (fun _ => rfl)) rfl rfl fun a hS => ?_)
                                refine wl rfl (ky (v := .bool (!(r22134))) hS (y_not hS rfl) rfl rfl fun a hS => ?_)
                                refine wl rfl (ky (v := .bool (!(r22134))) hS (y_move hS rfl) rfl rfl fun a hS => ?_)
                                rcases bool2 (!(r22134)) with hb23479 | hb23479
                                · replace hM := ct hb23479 hM
                                  refine wg hS rfl rfl rfl hb23479 (ky (v := .pointer (some ⟨b22129, 0 + 1, none⟩)) hS (y_fld hS rfl fl48_1) rfl rfl fun a hS => ?_)
                                  refine wg hS rfl rfl rfl hb23479 (ky (v := v22989) hS (y_load hS rfl ty46 3 rfl id (us := [v22989]) rfl rfl (fun _ => rfl)) rfl rfl fun a hS => ?_)
                                  refine wg hS rfl rfl rfl hb23479 (ky (v := .int .i64 (r22988.length : Int)) hS (y_leno (R := R_AskD) (xs := r22988) hS sl46 rfl 2 rfl 2 rfl) rfl rfl fun a hS => ?_)
                                  refine wg hS rfl rfl rfl hb23479 (ky (v := .bool (decide ((0 : Int) < (r22988.length : Int)))) hS (y_int hS rfl rfl rfl) rfl rfl fun a hS => ?_)
                                  refine wl rfl (ky (v := .bool (decide ((0 : Int) < (r22988.length : Int)))) hS (y_pickt hS rfl hb23479 rfl) rfl rfl fun a hS => ?_)
                                  refine wl rfl (ky (v := .bool (decide ((0 : Int) < (r22988.length : Int)))) hS (y_move hS rfl) rfl rfl fun a hS => ?_)
                                  rcases bool2 (decide ((0 : Int) < (r22988.length : Int))) with hb23480 | hb23480
                                  · replace hM := ct hb23480 hM
                                    refine wg hS rfl rfl rfl hb23480 (ky (v := .pointer (some ⟨b1, 0, none⟩)) hS (y_move hS rfl) rfl rfl fun a hS => ?_)
                                    obtain ⟨u23481, hu23481, hM⟩ := bd hM
                                    refine wg hS rfl rfl rfl hb23480 (k_callm hS ci63 rfl rfl 1 rfl (dice_Next_c _ _ (hS.drop 1).dlt (DiceD.mk d23430 d23432) 3 _ _ (hS.boxRow 1 rfl) (hS.notin 1 rfl) (SlR.lent (i := 1) rfl (hS.get 1 rfl)) _ hu23481) fun _ w hR hk => ?_)
                                    obtain ⟨vz23482_3, he, hrow, hRvz23482_3⟩ := hR
                                    replace he := he.symm
                                    subst he
                                    refine ⟨[vz23482_3, .int .i64 u23481.2.At], hrow, fun a hS => ?_⟩
                                    replace hS := hS.fact (SlF (Rep.int .i64) vz23482_3 u23481.2.L) (SlR.back (i := 1) rfl hRvz23482_3)
                                    refine wg hS rfl rfl rfl hb23480 (ky (v := .bool ((u23481.1 : Int) == 1)) hS (y_int hS rfl rfl rfl) rfl rfl fun a hS => ?_)
                                    refine wl rfl (ky (v := .bool ((u23481.1 : Int) == 1)) hS (y_pickt hS rfl hb23480 rfl) rfl rfl fun a hS => ?_)
                                    refine wpList_nil ?_
                                    try simp only [Exit.then, Exit.inBlock, ↓reduceIte, Nat.reduceEqDiff]
                                    exact ⟨((u23481.1 : Int) == 1), u23481.2.L, u23481.2.At, vz23482_3, (hS.meet [0, 1, 2, 3, 4] (by decide) ⟨rfl, rfl, rfl, rfl, rfl, rfl, rfl, rfl, rfl, rfl, rfl, trivial⟩ ⟨rfl, rfl, rfl, rfl, rfl, trivial⟩ ⟨⟨1, rfl⟩, ⟨0, rfl⟩, ⟨3, rfl⟩, trivial⟩), hM⟩
                                  · replace hM := cf hb23480 hM
                                    refine wn hS rfl rfl rfl hb23480 rfl rfl fun a hS => ?_
                                    refine wn hS rfl rfl rfl hb23480 rfl rfl fun a hS => ?_
                                    refine wn hS rfl rfl rfl hb23480 rfl rfl fun a hS => ?_
                                    refine wl rfl (ky (v := .bool false) hS (y_pickf hS rfl hb23480 rfl) rfl rfl fun a hS => ?_)
                                    refine wpList_nil ?_
                                    try simp only [Exit.then, Exit.inBlock, ↓reduceIte, Nat.reduceEqDiff]
                                    exact ⟨false, d23430, d23432, v23431, (hS.meet [0, 1, 2, 3, 4] (by decide) ⟨rfl, rfl, rfl, rfl, rfl, rfl, rfl, rfl, rfl, rfl, rfl, trivial⟩ ⟨rfl, rfl, rfl, rfl, rfl, trivial⟩ ⟨⟨0, rfl⟩, ⟨1, rfl⟩, ⟨2, rfl⟩, trivial⟩), hM⟩
                                · replace hM := cf hb23479 hM
                                  refine wn hS rfl rfl rfl hb23479 rfl rfl fun a hS => ?_
                                  refine wn hS rfl rfl rfl hb23479 rfl rfl fun a hS => ?_
                                  refine wn hS rfl rfl rfl hb23479 rfl rfl fun a hS => ?_
                                  refine wn hS rfl rfl rfl hb23479 rfl rfl fun a hS => ?_
                                  refine wl rfl (ky (v := .bool false) hS (y_pickf hS rfl hb23479 rfl) rfl rfl fun a hS => ?_)
                                  refine wl rfl (ky (v := .bool false) hS (y_move hS rfl) rfl rfl fun a hS => ?_)
                                  refine wn hS rfl rfl rfl rfl rfl rfl fun a hS => ?_
                                  refine wn hS rfl rfl rfl rfl rfl rfl fun a hS => ?_
                                  refine wn hS rfl rfl rfl rfl rfl rfl fun a hS => ?_
                                  refine wl rfl (ky (v := .bool false) hS (y_pickf hS rfl rfl rfl) rfl rfl fun a hS => ?_)
                                  refine wpList_nil ?_
                                  try simp only [Exit.then, Exit.inBlock, ↓reduceIte, Nat.reduceEqDiff]
                                  exact ⟨false, d23430, d23432, v23431, (hS.meet [0, 1, 2, 3, 4] (by decide) ⟨rfl, rfl, rfl, rfl, rfl, rfl, rfl, rfl, rfl, rfl, rfl, trivial⟩ ⟨rfl, rfl, rfl, rfl, rfl, trivial⟩ ⟨⟨0, rfl⟩, ⟨1, rfl⟩, ⟨2, rfl⟩, trivial⟩), hM⟩
                              · rintro a w ⟨g23472, d23473, d23475, v23474, hS, hM⟩
                                unfold mill_Rules_j6 at hM
                                rcases bool2 (g23472) with hb23476 | hb23476
                                · replace hM := ct hb23476 hM
                                  refine c_t hS rfl hb23476 ?_
                                  refine r_list ?_
                                  refine wl rfl (ky (v := .pointer (some ⟨b1, 0, none⟩)) hS (y_move hS rfl) rfl rfl fun a hS => ?_)
                                  refine wl rfl (ky (v := .int .i64 most23411) hS (y_move hS rfl) rfl rfl fun a hS => ?_)
                                  obtain ⟨u23477, hu23477, hM⟩ := bd hM
                                  refine wl rfl (k_callm hS ci63 rfl rfl 1 rfl (dice_Next_c _ _ (hS.drop 1).dlt (DiceD.mk d23473 d23475) most23411 _ _ (hS.boxRow 1 rfl) (hS.notin 1 rfl) (SlR.lent (i := 1) rfl (hS.get 1 rfl)) _ hu23477) fun _ w hR hk => ?_)
                                  obtain ⟨vz23478_3, he, hrow, hRvz23478_3⟩ := hR
                                  replace he := he.symm
                                  subst he
                                  refine ⟨[vz23478_3, .int .i64 u23477.2.At], hrow, fun a hS => ?_⟩
                                  replace hS := hS.fact (SlF (Rep.int .i64) vz23478_3 u23477.2.L) (SlR.back (i := 1) rfl hRvz23478_3)
                                  refine wl rfl (ky (v := .pointer (some ⟨b23404, 0 + 1, none⟩)) hS (y_fld hS rfl fl55_1) rfl rfl fun a hS => ?_)
                                  refine wl rfl (k_store hS rfl rfl (us := [.bool true]) rfl ty4 4 rfl rfl rfl (oc rfl on) fun w hk hS => ?_)
                                  refine wl rfl (ky (v := .pointer (some ⟨b23404, 0 + 3, none⟩)) hS (y_fld hS rfl fl55_3) rfl rfl fun a hS => ?_)
                                  refine wl rfl (k_store hS rfl rfl (us := [.int .i64 u23477.1]) rfl ty3 4 rfl rfl rfl (oc rfl on) fun w hk hS => ?_)
                                  refine wpList_nil ?_
                                  try simp only [Exit.then, Exit.inBlock, ↓reduceIte, Nat.reduceEqDiff]
                                  exact ⟨u23477.2.L, u23477.2.At, true, u23477.1, vz23478_3, (hS.meet [0, 1, 2, 3, 4] (by decide) ⟨rfl, rfl, rfl, rfl, rfl, rfl, rfl, rfl, rfl, trivial⟩ ⟨rfl, rfl, rfl, rfl, rfl, trivial⟩ ⟨⟨1, rfl⟩, ⟨0, rfl⟩, ⟨3, rfl⟩, trivial⟩), hM⟩
                                · replace hM := cf hb23476 hM
                                  refine c_f hS rfl hb23476 ?_
                                  refine wp_skip ?_
                                  try simp only [Exit.then, Exit.inBlock, ↓reduceIte, Nat.reduceEqDiff]
                                  exact ⟨d23473, d23475, false, 0, v23474, (hS.meet [0, 1, 2, 3, 4] (by decide) ⟨rfl, rfl, rfl, rfl, rfl, rfl, rfl, rfl, rfl, trivial⟩ ⟨rfl, rfl, rfl, rfl, rfl, trivial⟩ ⟨⟨0, rfl⟩, ⟨1, rfl⟩, ⟨2, rfl⟩, trivial⟩), hM⟩
                            · rintro a w ⟨d23453, d23455, x23456, x23457, v23454, hS, hM⟩
                              unfold mill_Rules_j5 at hM
                              refine r_list ?_
                              refine wl rfl (ky (v := .pointer (some ⟨b22129, 0 + 1, none⟩)) hS (y_fld hS rfl fl48_1) rfl rfl fun a hS => ?_)
                              refine wl rfl (ky (v := v22989) hS (y_load hS rfl ty46 3 rfl id (us := [v22989]) rfl rfl (fun _ => rfl)) rfl rfl fun a hS => ?_)
                              refine wl rfl (ky (v := .agg #[.bool x23409, .bool x23456, .int .i64 x23433, .int .i64 x23457]) hS (y_load hS rfl ty55 4 rfl id (us := [.bool x23409, .bool x23456, .int .i64 x23433, .int .i64 x23457]) rfl rfl (fun h => by cases h)) rfl rfl fun a hS => ?_)
                              refine wl rfl (k_bslice (ps := [(0, .tmp 122)]) hS el46 ze55 (zl := [.bool false, .bool false, .int .i64 0, .int .i64 0]) (by kernel_rfl) rfl (us := [[.bool x23409, .bool x23456, .int .i64 x23433, .int .i64 x23457]]) ⟨rfl, trivial⟩ (ws := [.bool x23409, .bool x23456, .int .i64 x23433, .int .i64 x23457]) rfl rfl rfl rfl fun b23458 a w hk hS => ?_)
                              replace hS := hS.lit (R := R_AskD) (us := [.bool x23409, .bool x23456, .int .i64 x23433, .int .i64 x23457]) (xs := [(AskD.mk x23409 x23456 x23433 x23457)]) 0 rfl (by decide) (RowsOk.one_ (R := R_AskD) (x := (AskD.mk x23409 x23456 x23433 x23457)) rfl) rfl rfl
                              replace hS := hS.freeze (R := R_AskD) 0 rfl 0 rfl
                              obtain ⟨hg23460, hM⟩ := gd_some hM
                              refine wl rfl (k_apps (R := R_AskD) (xs := r22988) (ys := [(AskD.mk x23409 x23456 x23433 x23457)]) hS el46 (by decide) (by decide) rfl rfl 2 rfl 4 rfl 0 rfl hg23460 rfl fun v23461 cl23462 a w hk hS => ?_)
                              refine wl rfl (ky (v := .pointer (some ⟨b22129, 0 + 1, none⟩)) hS (y_fld hS rfl fl48_1) rfl rfl fun a hS => ?_)
                              refine wl rfl (k_store hS rfl rfl (us := [v23461]) (cells1 (own_one (hS.own _ (List.mem_of_getElem? (i := 2) rfl)).1)) ty46 3 rfl rfl rfl (oc (own_one (hS.own _ (List.mem_of_getElem? (i := 2) rfl)).1) on) fun w hk hS => ?_)
                              refine wpList_nil ?_
                              try simp only [Exit.then, Exit.inBlock, ↓reduceIte, Nat.reduceEqDiff]
                              exact ⟨d23453, d23455, (r22988 ++ ([(AskD.mk x23409 x23456 x23433 x23457)])), v23461, cl23462, v23454, (hS.meet [0, 1, 2, 3] (by decide) ⟨rfl, rfl, rfl, rfl, rfl, rfl, rfl, rfl, trivial⟩ ⟨rfl, rfl, rfl, rfl, trivial⟩ ⟨⟨3, rfl⟩, ⟨4, rfl⟩, ⟨0, rfl⟩, trivial⟩), hM⟩
                    · rintro a w ⟨d23379, d23381, r23382, v23383, cl23384, v23380, hS, hM⟩
                      unfold mill_Rules_j4 at hM
                      refine r_list ?_
                      refine wl rfl (ky (v := .int .i64 k22984) hS (y_move hS rfl) rfl rfl fun a hS => ?_)
                      refine wl rfl (ky (v := .int .i64 (IntKind.i64.wrap (k22984 - 1))) hS (y_int hS rfl rfl rfl) rfl rfl fun a hS => ?_)
                      refine wl rfl (ky (v := .int .i64 (IntKind.i64.wrap (k22984 - 1))) hS (y_assign hS rfl) rfl rfl fun a hS => ?_)
                      refine wpList_nil ?_
                      try simp only [Exit.then, Exit.inBlock, ↓reduceIte, Nat.reduceEqDiff]
                      exact ⟨(IntKind.i64.wrap (k22984 - 1), d23379, d23381, r23382), (Option.some.inj hM).symm, (IntKind.i64.wrap (k22984 - 1)), d23379, d23381, r23382, v23383, cl23384, v23380, rfl, (hS.meet [0, 1, 2, 3] (by decide) ⟨rfl, rfl, rfl, rfl, rfl, rfl, rfl, rfl, trivial⟩ ⟨rfl, rfl, rfl, rfl, trivial⟩ ⟨⟨0, rfl⟩, ⟨1, rfl⟩, ⟨2, rfl⟩, trivial⟩)⟩
                  · replace hM := cf hb23255 hM
                    refine c_f hS rfl hb23255 ?_
                    refine wp_exit ?_
                    try simp only [Exit.then, Exit.inBlock, ↓reduceIte, Nat.reduceEqDiff]
                    injection hM with hM
                    subst hM
                    have hr := hf2 _ rfl
                    subst hr
                    have hM : mill_Rules_j3 l18183 g18185 r22134 r22163 r22164 d22985 d22987 r22988 = some f1 := hMo2
                    exact ⟨d22985, d22987, r22988, v22989, cl22990, v22986, (hS.meet [0, 1, 2, 3] (by decide) ⟨rfl, rfl, rfl, rfl, rfl, rfl, trivial⟩ ⟨rfl, rfl, rfl, rfl, trivial⟩ ⟨⟨0, rfl⟩, ⟨1, rfl⟩, ⟨2, rfl⟩, trivial⟩), hM⟩
                · rintro a w ⟨d22701, d22703, r22704, v22705, cl22706, v22702, hS, hM⟩
                  unfold mill_Rules_j3 at hM
                  refine r_list ?_
                  refine wl rfl (ky (v := v10456) hS (y_move hS rfl) rfl rfl fun a hS => ?_)
                  refine wl rfl (ky (v := .int .i64 g18185) hS (y_move hS rfl) rfl rfl fun a hS => ?_)
                  refine wl rfl (ky (v := .agg #[.bool r22134, v22705, .int .i64 r22163, .int .i64 r22164]) hS (y_load hS rfl ty48 3 rfl id (us := [.bool r22134, v22705, .int .i64 r22163, .int .i64 r22164]) rfl rfl (fun h => by cases h)) rfl rfl fun a hS => ?_)
                  obtain ⟨e22708, he22708, hM⟩ := bd hM
                  refine wl rfl (k_indexo (R := R_RuleD) hS sl44 ty48 rfl rfl 0 rfl 0 rfl he22708 rfl fun b22710 o22711 p22716 cs22713 hr22712 hO22714 hC22715 a hS => ?_)
                  obtain ⟨v22709, rfl, hv22709⟩ := hr22712
                  replace hS := hS.fact (SlF R_AskD v22709 e22708.Asks) hv22709
                  replace hS := hS.freeze (R := R_AskD) 2 rfl 3 rfl
                  refine wl rfl (k_storeo (R := R_RuleD) (k := 0) (cs := [.bool e22708.Ring, v22709, .int .i64 e22708.Final, .int .i64 e22708.C]) (us := [.bool r22134, v22705, .int .i64 r22163, .int .i64 r22164]) (x' := (RuleD.mk r22134 r22704 r22163 r22164)) hS rfl rfl rfl ty48 0 rfl 2 rfl hO22714 hC22715 he22708 (⟨_, rfl, (hS.get 1 rfl)⟩) rfl rfl (⟨_, rfl, (hS.get 0 rfl)⟩) fun cl22717 w hk hS => ?_)
                  refine wpList_nil ?_
                  try simp only [Exit.then, Exit.inBlock, ↓reduceIte, Nat.reduceEqDiff]
                  exact ⟨(l18183.set (Int.toNat g18185) (RuleD.mk r22134 r22704 r22163 r22164)), d22701, d22703, cl22717, v22702, (hS.meet [0, 1] (by decide) ⟨rfl, rfl, rfl, rfl, trivial⟩ ⟨rfl, rfl, trivial⟩ ⟨⟨0, rfl⟩, ⟨4, rfl⟩, trivial⟩), hM⟩
        · rintro a w ⟨l22039, d22041, d22043, cl22040, v22042, hS, hM⟩
          unfold mill_Rules_j2 at hM
          refine r_list ?_
          refine wl rfl (ky (v := .int .i64 (IntKind.i64.wrap (g18185 + 1))) hS (y_int hS rfl rfl rfl) rfl rfl fun a hS => ?_)
          refine wl rfl (ky (v := .int .i64 (IntKind.i64.wrap (g18185 + 1))) hS (y_move hS rfl) rfl rfl fun a hS => ?_)
          refine wpList_nil ?_
          try simp only [Exit.then, Exit.inBlock, ↓reduceIte, Nat.reduceEqDiff]
          exact ⟨(l22039, IntKind.i64.wrap (g18185 + 1), d22041, d22043), (Option.some.inj hM).symm, l22039, (IntKind.i64.wrap (g18185 + 1)), d22041, d22043, cl22040, v22042, rfl, (hS.meet [0, 1] (by decide) ⟨rfl, rfl, rfl, rfl, trivial⟩ ⟨rfl, rfl, trivial⟩ ⟨⟨0, rfl⟩, ⟨1, rfl⟩, trivial⟩)⟩
      · replace hM := cf hb20759 hM
        refine c_f hS rfl hb20759 ?_
        refine wp_exit ?_
        try simp only [Exit.then, Exit.inBlock, ↓reduceIte, Nat.reduceEqDiff]
        injection hM with hM
        subst hM
        have hr := hf1 _ rfl
        subst hr
        have hM : mill_Rules_j1 l18183 d18186 d18188 = some y := hMo1
        exact ⟨l18183, d18186, d18188, cl18184, v18187, (hS.meet [0, 1] (by decide) ⟨rfl, trivial⟩ ⟨rfl, rfl, trivial⟩ ⟨⟨0, rfl⟩, ⟨1, rfl⟩, trivial⟩), hM⟩
    · rintro a w ⟨l15608, d15610, d15612, cl15609, v15611, hS, hM⟩
      unfold mill_Rules_j1 at hM
      refine wp_seq_k fun K618 hK618 => ?_
      refine r_list ?_
      refine wl rfl (ky (v := v10456) hS (y_move hS rfl) rfl rfl fun a hS => ?_)
      refine wl rfl (ky (v := v10456) hS (y_assign hS rfl) rfl rfl fun a hS => ?_)
      refine wpList_nil ?_
      try simp only [Exit.then, Exit.inBlock, ↓reduceIte, Nat.reduceEqDiff]
      refine hK618 _ _ ?_
      refine wp_ret ?_
      injection hM with hM
      subst hM
      try simp only [Exit.then, Exit.inBlock, ↓reduceIte, Nat.reduceEqDiff]
      refine ret_ok hS Tryd.results28 (res_tmp hS rfl res_nil) ?_
      exact ⟨v10456, cl15609, v15611, rfl, hS.retOwnm ⟨.inr (List.mem_of_getElem? (i := 0) rfl), ⟨.inr (List.mem_of_getElem? (i := 1) rfl), trivial⟩⟩ 0 rfl 0 rfl 1 rfl (by decide), hS.boxRow 1 rfl, (SlR.up ⟨.inr (List.mem_of_getElem? (i := 0) rfl), ⟨.inr (List.mem_of_getElem? (i := 1) rfl), trivial⟩⟩ (hS.get 1 rfl))⟩

noncomputable def law24_ToyRules_j1 : Option Bool := (law24_awake).bind fun u1338 => some (u1338)
noncomputable def law24_ToyRules_j2 (g1418 : (List (List RuleD))) (g1422 : Int) : Option (Fl ((List (List RuleD)) × Int) (Fl (Unit) Bool)) := some (.go (g1418, IntKind.i64.wrap (g1422 + 1)))
noncomputable def law24_ToyRules_l3 (e1529 : (List RuleD)) (i1552 : Int) : Option (Fl (Int) (Fl (Unit) Bool)) := cond (decide ((i1552 : Int) ≤ (e1529.length : Int))) ((toy_Block e1529 i1552).bind fun u1563 => (ref24_Block e1529 i1552).bind fun u1565 => cond ((u1563.1 : Int) != u1565.1) (some (.out (.out false))) (cond ((u1563.2 : Int) != u1565.2) (some (.out (.out false))) (some (.go (IntKind.i64.wrap (i1552 + 1)))))) (some (.out (.go ())))
noncomputable def law24_ToyRules_l4 (raw_ : (List RuleD)) (l1179 : (List RuleD)) (g1418 : (List (List RuleD))) (g1422 : Int) : Option (Fl ((List (List RuleD)) × Int) (Fl (Unit) Bool)) := cond (decide ((g1422 : Int) < (([l1179, raw_]).length : Int))) ((getI g1418 g1422).bind fun e1529 => (toy_Valid e1529).bind fun u1538 => (ref24_Valid e1529).bind fun u1540 => cond (u1538 != u1540) (some (.out (.out false))) ((loop (fun s : Int => law24_ToyRules_l3 e1529 s) (-1)).bind fun r => Fl.el r (fun s => law24_ToyRules_j2 g1418 g1422) (fun y => some (.out (.out y))))) (some (.out (.go ())))
noncomputable def law24_ToyRules_j5 (raw_ : (List RuleD)) (l1179 : (List RuleD)) : Option Bool := (loop (fun s : (List (List RuleD)) × Int => law24_ToyRules_l4 raw_ l1179 s.1 s.2) ([l1179, raw_], 0)).bind fun r => Fl.el r (fun s => law24_ToyRules_j1) (fun y => some (y))
noncomputable def law24_ToyRules_l6 (by_4 : Int) (u923 : ((List RuleD) × DiceD)) (u929 : Int) (e931 : RuleD) (l1711 : (List AskD)) : Option (Fl ((List AskD)) ((List RuleD))) := (mill_Mod by_4 2).bind fun u1751 => cond (decide (((l1711.length : Int) : Int) < (IntKind.i64.wrap (6 + u1751)))) (gd (roomB (l1711.length + ([(AskD.mk true false 0 0)]).length)) <| some (.go (l1711 ++ ([(AskD.mk true false 0 0)])))) (some (.out (u923.1.set (Int.toNat u929) (RuleD.mk e931.Ring l1711 e931.Final e931.C))))
noncomputable def law24_ToyRules_l7 (by_4 : Int) (l1776 : (List RuleD)) : Option (Fl ((List RuleD)) ((List RuleD))) := (mill_Mod by_4 2).bind fun u1793 => cond (decide (((l1776.length : Int) : Int) < (IntKind.i64.wrap (24 + u1793)))) (gd (roomB (l1776.length + ([(RuleD.mk false ([]) 1 0)]).length)) <| some (.go (l1776 ++ ([(RuleD.mk false ([]) 1 0)])))) (some (.out l1776))
noncomputable def law24_ToyRules_j8 (raw_ : (List RuleD)) (t_1 : (List Int)) (what_ : Int) (at_3 : Int) (by_4 : Int) : Option Bool := (mill_Roll t_1).bind fun u920 => (mill_Rules u920).bind fun u923 => (toy_Valid u923.1).bind fun u926 => cond (!(u926)) (some (false)) ((mill_Mod at_3 (u923.1.length : Int)).bind fun u929 => (getI u923.1 u929).bind fun e931 => gd (roomB (([] : List AskD).length + e931.Asks.length)) <| (mill_Mod what_ 10).bind fun u1570 => cond ((u1570 : Int) == 0) (law24_ToyRules_j5 raw_ (u923.1.set (Int.toNat u929) (RuleD.mk (!(e931.Ring)) (([] : List AskD) ++ e931.Asks) e931.Final e931.C))) (cond ((u1570 : Int) == 1) ((mill_Mod by_4 7).bind fun u1576 => law24_ToyRules_j5 raw_ (u923.1.set (Int.toNat u929) (RuleD.mk e931.Ring (([] : List AskD) ++ e931.Asks) u1576 e931.C))) (cond ((u1570 : Int) == 2) ((mill_Mod by_4 5).bind fun u1582 => (getI ([(-1), 999, 1000, 65535, 65536]) u1582).bind fun e1584 => law24_ToyRules_j5 raw_ (u923.1.set (Int.toNat u929) (RuleD.mk e931.Ring (([] : List AskD) ++ e931.Asks) e931.Final e1584))) (cond ((u1570 : Int) == 3) ((mill_Mod (IntKind.i64.wrap (Int.tdiv by_4 2)) 18).bind fun u1603 => gd (roomB ((([] : List AskD) ++ e931.Asks).length + ([(AskD.mk ((Int.tmod by_4 2 : Int) == 0) false (IntKind.i64.wrap (u1603 - 1)) 0)]).length)) <| law24_ToyRules_j5 raw_ (u923.1.set (Int.toNat u929) (RuleD.mk e931.Ring ((([] : List AskD) ++ e931.Asks) ++ ([(AskD.mk ((Int.tmod by_4 2 : Int) == 0) false (IntKind.i64.wrap (u1603 - 1)) 0)])) e931.Final e931.C))) (cond ((u1570 : Int) == 4) ((mill_Mod by_4 9).bind fun u1626 => (mill_Mod (IntKind.i64.wrap (Int.tdiv by_4 9)) 9).bind fun u1628 => gd (roomB ((([] : List AskD) ++ e931.Asks).length + ([(AskD.mk false true u1626 u1628)]).length)) <| law24_ToyRules_j5 raw_ (u923.1.set (Int.toNat u929) (RuleD.mk e931.Ring ((([] : List AskD) ++ e931.Asks) ++ ([(AskD.mk false true u1626 u1628)])) e931.Final e931.C))) (cond ((u1570 : Int) == 5) (cond (decide ((0 : Int) < ((([] : List AskD) ++ e931.Asks).length : Int))) ((getI (([] : List AskD) ++ e931.Asks) 0).bind fun e1663 => (getI (([] : List AskD) ++ e931.Asks) 0).bind fun e1672 => law24_ToyRules_j5 raw_ (u923.1.set (Int.toNat u929) (RuleD.mk e931.Ring ((([] : List AskD) ++ e931.Asks).set (Int.toNat 0) (AskD.mk e1672.Cell (!(e1663.Pick)) e1672.N e1672.Else)) e931.Final e931.C))) (law24_ToyRules_j5 raw_ (u923.1.set (Int.toNat u929) (RuleD.mk e931.Ring (([] : List AskD) ++ e931.Asks) e931.Final e931.C)))) (cond ((u1570 : Int) == 6) ((loop (fun s : (List AskD) => law24_ToyRules_l6 by_4 u923 u929 e931 s) (([] : List AskD) ++ e931.Asks)).bind fun r => law24_ToyRules_j5 raw_ r) (cond ((u1570 : Int) == 7) ((loop (fun s : (List RuleD) => law24_ToyRules_l7 by_4 s) (u923.1.set (Int.toNat u929) (RuleD.mk e931.Ring (([] : List AskD) ++ e931.Asks) e931.Final e931.C))).bind fun r => law24_ToyRules_j5 raw_ r) (cond ((u1570 : Int) == 8) (cond (decide ((0 : Int) < ((([] : List AskD) ++ e931.Asks).length : Int))) ((mill_Mod by_4 3).bind fun u1821 => (getI (([] : List AskD) ++ e931.Asks) (IntKind.i64.wrap (((([] : List AskD) ++ e931.Asks).length : Int) - 1))).bind fun e1823 => law24_ToyRules_j5 raw_ (u923.1.set (Int.toNat u929) (RuleD.mk e931.Ring ((([] : List AskD) ++ e931.Asks).set (Int.toNat (IntKind.i64.wrap (((([] : List AskD) ++ e931.Asks).length : Int) - 1))) (AskD.mk e1823.Cell e1823.Pick e1823.N u1821)) e931.Final e931.C))) (law24_ToyRules_j5 raw_ (u923.1.set (Int.toNat u929) (RuleD.mk e931.Ring (([] : List AskD) ++ e931.Asks) e931.Final e931.C)))) (law24_ToyRules_j5 raw_ (u923.1.set (Int.toNat u929) (RuleD.mk e931.Ring (([] : List AskD) ++ e931.Asks) e931.Final e931.C))))))))))))
noncomputable def law24_ToyRules_l9 (raw_ : (List RuleD)) (g1848 : Int) : Option (Fl (Int) (Fl (Unit) Bool)) := cond (decide ((g1848 : Int) < (raw_.length : Int))) ((getI raw_ g1848).bind fun e1865 => cond (decide ((40 : Int) < (e1865.Asks.length : Int))) ((law24_awake).bind fun u1876 => some (.out (.out u1876))) (some (.go (IntKind.i64.wrap (g1848 + 1))))) (some (.out (.go ())))
noncomputable def law24_ToyRules (raw_ : (List RuleD)) (t_1 : (List Int)) (what_ : Int) (at_3 : Int) (by_4 : Int) : Option Bool := cond (decide ((40 : Int) < (raw_.length : Int))) ((law24_awake).bind fun u882 => some (u882)) ((mill_Light t_1).bind fun u884 => cond (!(u884)) ((law24_awake).bind fun u887 => some (u887)) ((loop (fun s : Int => law24_ToyRules_l9 raw_ s) 0).bind fun r => Fl.el r (fun s => law24_ToyRules_j8 raw_ t_1 what_ at_3 by_4) (fun y => some (y))))
set_option maxRecDepth 100000 in
set_option maxHeartbeats 4000000 in
theorem law24_ToyRules_c (T : Nat → Prop) (W0 : World) (hT : ∀ k, T k → k < W0.heap.size) (hLv : LvP T W0) (raw_ : (List RuleD)) (t_1 : (List Int)) (what_ : Int) (at_3 : Int) (by_4 : Int) (v1 : Value) (v2 : Value) (hv1 : SlR R_RuleD T W0 v1 raw_) (hv2 : SlR (Rep.int .i64) T W0 v2 t_1) (y : Bool) (hM : law24_ToyRules raw_ t_1 what_ at_3 by_4 = some y) : Rets Tryd.prog No 5 [v1, v2, .int .i64 what_, .int .i64 at_3, .int .i64 by_4] W0 (fun v w' => v = .bool y) := by
  refine enter (c := _) Tryd.func5 rfl T 246 Tryd.ntmps5 hT rfl fun a hS => ?_
  replace hS := hS.fact LvF (LvP.dn hLv)
  replace hS := hS.fact (SlF R_RuleD v1 raw_) (SlR.dn hv1)
  replace hS := hS.fact (SlF (Rep.int .i64) v2 t_1) (SlR.dn hv2)
  unfold law24_ToyRules at hM
  refine wp_seq_k fun K251 hK251 => ?_
  refine r_list ?_
  refine wl rfl (ky (v := .bool false) hS (y_assign hS rfl) rfl rfl fun a hS => ?_)
  refine wpList_nil ?_
  try simp only [Exit.then, Exit.inBlock, ↓reduceIte, Nat.reduceEqDiff]
  refine hK251 _ _ ?_
  refine wp_seq_k fun K252 hK252 => ?_
  refine wp_seq_k fun K253 hK253 => ?_
  refine r_list ?_
  refine wl rfl (ky (v := v1) hS (y_move hS rfl) rfl rfl fun a hS => ?_)
  refine wl rfl (ky (v := .int .i64 (raw_.length : Int)) hS (y_len (R := R_RuleD) (xs := raw_) hS sl44 rfl 1 rfl) rfl rfl fun a hS => ?_)
  refine wl rfl (ky (v := .bool (decide ((40 : Int) < (raw_.length : Int)))) hS (y_int hS rfl rfl rfl) rfl rfl fun a hS => ?_)
  refine wl rfl (ky (v := .bool (decide ((40 : Int) < (raw_.length : Int)))) hS (y_move hS rfl) rfl rfl fun a hS => ?_)
  rcases bool2 (decide ((40 : Int) < (raw_.length : Int))) with hb881 | hb881
  · replace hM := ct hb881 hM
    refine wn hS rfl rfl rfl hb881 rfl rfl fun a hS => ?_
    refine wn hS rfl rfl rfl hb881 rfl rfl fun a hS => ?_
    refine wn hS rfl rfl rfl hb881 rfl rfl fun a hS => ?_
    refine wl rfl (ky (v := .bool true) hS (y_pickt hS rfl hb881 rfl) rfl rfl fun a hS => ?_)
    refine wpList_nil ?_
    try simp only [Exit.then, Exit.inBlock, ↓reduceIte, Nat.reduceEqDiff]
    refine hK253 _ _ ?_
    refine c_t hS rfl rfl ?_
    refine wp_seq_k fun K254 hK254 => ?_
    refine r_list ?_
    obtain ⟨u882, hu882, hM⟩ := bd hM
    refine wl rfl (k_call hS ci27 rfl rfl (law24_awake_c _ _ hS.dlt (hS.get 2 rfl) _ hu882) fun _ w hR a hk hA => ?_)
    have he := Eq.symm hR
    subst he
    have hS := hA [] (fun r hr => by cases hr) List.Pairwise.nil
    refine wl rfl (ky (v := .bool u882) hS (y_assign hS rfl) rfl rfl fun a hS => ?_)
    refine wpList_nil ?_
    try simp only [Exit.then, Exit.inBlock, ↓reduceIte, Nat.reduceEqDiff]
    refine hK254 _ _ ?_
    refine wp_ret ?_
    injection hM with hM
    subst hM
    try simp only [Exit.then, Exit.inBlock, ↓reduceIte, Nat.reduceEqDiff]
    refine ret_ok hS Tryd.results5 (res_tmp hS rfl res_nil) ?_
    exact rfl
  · replace hM := cf hb881 hM
    refine wg hS rfl rfl rfl hb881 (ky (v := v2) hS (y_move hS rfl) rfl rfl fun a hS => ?_)
    obtain ⟨u884, hu884, hM⟩ := bd hM
    refine wg hS rfl rfl rfl hb881 (k_call hS ci26 rfl rfl (mill_Light_c _ _ hS.dlt t_1 _ (hS.get 0 rfl) _ hu884) fun _ w hR a hk hA => ?_)
    have he := Eq.symm hR
    subst he
    have hS := hA [] (fun r hr => by cases hr) List.Pairwise.nil
    refine wg hS rfl rfl rfl hb881 (ky (v := .bool (!(u884))) hS (y_not hS rfl) rfl rfl fun a hS => ?_)
    refine wl rfl (ky (v := .bool (!(u884))) hS (y_pickf hS rfl hb881 rfl) rfl rfl fun a hS => ?_)
    refine wpList_nil ?_
    try simp only [Exit.then, Exit.inBlock, ↓reduceIte, Nat.reduceEqDiff]
    refine hK253 _ _ ?_
    rcases bool2 (!(u884)) with hb886 | hb886
    · replace hM := ct hb886 hM
      refine c_t hS rfl hb886 ?_
      refine wp_seq_k fun K255 hK255 => ?_
      refine r_list ?_
      obtain ⟨u887, hu887, hM⟩ := bd hM
      refine wl rfl (k_call hS ci27 rfl rfl (law24_awake_c _ _ hS.dlt (hS.get 2 rfl) _ hu887) fun _ w hR a hk hA => ?_)
      have he := Eq.symm hR
      subst he
      have hS := hA [] (fun r hr => by cases hr) List.Pairwise.nil
      refine wl rfl (ky (v := .bool u887) hS (y_assign hS rfl) rfl rfl fun a hS => ?_)
      refine wpList_nil ?_
      try simp only [Exit.then, Exit.inBlock, ↓reduceIte, Nat.reduceEqDiff]
      refine hK255 _ _ ?_
      refine wp_ret ?_
      injection hM with hM
      subst hM
      try simp only [Exit.then, Exit.inBlock, ↓reduceIte, Nat.reduceEqDiff]
      refine ret_ok hS Tryd.results5 (res_tmp hS rfl res_nil) ?_
      exact rfl
    · replace hM := cf hb886 hM
      refine c_f hS rfl hb886 ?_
      refine wp_skip ?_
      try simp only [Exit.then, Exit.inBlock, ↓reduceIte, Nat.reduceEqDiff]
      refine hK252 _ _ ?_
      refine seq_j (J := fun a w => St W0 No T 246 [(0, v1), (1, v2), (2, .int .i64 what_), (3, .int .i64 at_3), (4, .int .i64 by_4)] [] [SlF R_RuleD v1 raw_, SlF (Rep.int .i64) v2 t_1, LvF] a w ∧ law24_ToyRules_j8 raw_ t_1 what_ at_3 by_4 = some y) ?_ ?_
      · skip
        refine wp_seq_k fun K550 hK550 => ?_
        refine r_list ?_
        refine wl rfl (ky (v := v1) hS (y_move hS rfl) rfl rfl fun a hS => ?_)
        refine wl rfl (ky (v := .int .i64 (raw_.length : Int)) hS (y_len (R := R_RuleD) (xs := raw_) hS sl44 rfl 1 rfl) rfl rfl fun a hS => ?_)
        refine wl rfl (ky (v := .int .i64 0) hS (y_move hS rfl) rfl rfl fun a hS => ?_)
        refine wpList_nil ?_
        try simp only [Exit.then, Exit.inBlock, ↓reduceIte, Nat.reduceEqDiff]
        refine hK550 _ _ ?_
        refine wp_block ?_
        obtain ⟨r1, hl1, hMo1⟩ := bd hM
        refine wp_lp (fun s : Int => law24_ToyRules_l9 raw_ s) (fun s a w => ∃ (g1848 : Int), g1848 = s ∧ St W0 No T 246 [(0, v1), (1, v2), (2, .int .i64 what_), (3, .int .i64 at_3), (4, .int .i64 by_4), (31, v1), (32, .int .i64 (raw_.length : Int)), (33, .int .i64 g1848)] [] [SlF R_RuleD v1 raw_, SlF (Rep.int .i64) v2 t_1, LvF] a w) hl1 ⟨0, rfl, (hS.meet [] (by decide) ⟨rfl, rfl, rfl, rfl, rfl, rfl, rfl, rfl, trivial⟩ trivial ⟨⟨1, rfl⟩, ⟨0, rfl⟩, ⟨2, rfl⟩, trivial⟩)⟩ ?_
        rintro s a w f1 ⟨g1848, rfl, hS⟩ hM hf1
        have hM : law24_ToyRules_l9 raw_ g1848 = some f1 := hM
        unfold law24_ToyRules_l9 at hM
        refine wp_seq_k fun K563 hK563 => ?_
        refine r_list ?_
        refine wl rfl (ky (v := .bool (decide ((g1848 : Int) < (raw_.length : Int)))) hS (y_int hS rfl rfl rfl) rfl rfl fun a hS => ?_)
        refine wpList_nil ?_
        try simp only [Exit.then, Exit.inBlock, ↓reduceIte, Nat.reduceEqDiff]
        refine hK563 _ _ ?_
        refine wp_seq_k fun K564 hK564 => ?_
        rcases bool2 (decide ((g1848 : Int) < (raw_.length : Int))) with hb1864 | hb1864
        · replace hM := ct hb1864 hM
          refine c_t hS rfl hb1864 ?_
          refine wp_skip ?_
          try simp only [Exit.then, Exit.inBlock, ↓reduceIte, Nat.reduceEqDiff]
          refine hK564 _ _ ?_
          refine wp_seq_k fun K565 hK565 => ?_
          refine wp_block ?_
          refine wp_seq_k fun K566 hK566 => ?_
          refine r_list ?_
          obtain ⟨e1865, he1865, hM⟩ := bd hM
          refine wl rfl (k_index (R := R_RuleD) hS sl44 ty48 rfl rfl 0 rfl he1865 rfl fun b1867 o1868 cs1870 hr1869 a hS => ?_)
          obtain ⟨v1866, rfl, hv1866⟩ := hr1869
          replace hS := hS.fact (SlF R_AskD v1866 e1865.Asks) hv1866
          refine wl rfl (ky (v := .agg #[.bool e1865.Ring, v1866, .int .i64 e1865.Final, .int .i64 e1865.C]) hS (y_loadc (k := 0) hS ty48 1 rfl rfl (fun _ h => h.elim) (us := [.bool e1865.Ring, v1866, .int .i64 e1865.Final, .int .i64 e1865.C]) rfl rfl (fun h => by cases h)) rfl rfl fun a hS => ?_)
          refine wl rfl (k_alloc hS ze48 rfl fun b1872 hnb1874 a w hk hS => ?_)
          refine wl rfl (k_store hS rfl rfl (us := [.bool e1865.Ring, v1866, .int .i64 e1865.Final, .int .i64 e1865.C]) rfl ty48 0 rfl rfl rfl (oc rfl (oc (SlR.one ((hS.get 0 rfl) : SlR R_AskD _ _ _ _)) (oc rfl (oc rfl on)))) fun w hk hS => ?_)
          refine wpList_nil ?_
          try simp only [Exit.then, Exit.inBlock, ↓reduceIte, Nat.reduceEqDiff]
          refine hK566 _ _ ?_
          refine wp_seq_k fun K567 hK567 => ?_
          refine r_list ?_
          refine wl rfl (ky (v := .pointer (some ⟨b1872, 0 + 1, none⟩)) hS (y_fld hS rfl fl48_1) rfl rfl fun a hS => ?_)
          refine wl rfl (ky (v := v1866) hS (y_load hS rfl ty46 0 rfl id (us := [v1866]) rfl rfl (fun _ => rfl)) rfl rfl fun a hS => ?_)
          refine wl rfl (ky (v := .int .i64 (e1865.Asks.length : Int)) hS (y_len (R := R_AskD) (xs := e1865.Asks) hS sl46 rfl 0 rfl) rfl rfl fun a hS => ?_)
          refine wl rfl (ky (v := .bool (decide ((40 : Int) < (e1865.Asks.length : Int)))) hS (y_int hS rfl rfl rfl) rfl rfl fun a hS => ?_)
          refine wpList_nil ?_
          try simp only [Exit.then, Exit.inBlock, ↓reduceIte, Nat.reduceEqDiff]
          refine hK567 _ _ ?_
          rcases bool2 (decide ((40 : Int) < (e1865.Asks.length : Int))) with hb1875 | hb1875
          · replace hM := ct hb1875 hM
            refine c_t hS rfl hb1875 ?_
            refine wp_seq_k fun K568 hK568 => ?_
            refine r_list ?_
            obtain ⟨u1876, hu1876, hM⟩ := bd hM
            refine wl rfl (k_call hS ci27 rfl rfl (law24_awake_c _ _ hS.dlt (hS.get 4 rfl) _ hu1876) fun _ w hR a hk hA => ?_)
            have he := Eq.symm hR
            subst he
            have hS := hA [] (fun r hr => by cases hr) List.Pairwise.nil
            refine wl rfl (ky (v := .bool u1876) hS (y_assign hS rfl) rfl rfl fun a hS => ?_)
            refine wpList_nil ?_
            try simp only [Exit.then, Exit.inBlock, ↓reduceIte, Nat.reduceEqDiff]
            refine hK568 _ _ ?_
            refine wp_ret ?_
            injection hM with hM
            subst hM
            have hr := hf1 _ rfl
            subst hr
            replace hMo1 := el_out hMo1
            have hM := hMo1
            injection hM with hM
            subst hM
            try simp only [Exit.then, Exit.inBlock, ↓reduceIte, Nat.reduceEqDiff]
            refine ret_ok hS Tryd.results5 (res_tmp hS rfl res_nil) ?_
            exact rfl
          · replace hM := cf hb1875 hM
            refine c_f hS rfl hb1875 ?_
            refine wp_skip ?_
            try simp only [Exit.then, Exit.inBlock, ↓reduceIte, Nat.reduceEqDiff]
            refine hK565 _ _ ?_
            refine r_list ?_
            refine wl rfl (ky (v := .int .i64 (IntKind.i64.wrap (g1848 + 1))) hS (y_int hS rfl rfl rfl) rfl rfl fun a hS => ?_)
            refine wl rfl (ky (v := .int .i64 (IntKind.i64.wrap (g1848 + 1))) hS (y_move hS rfl) rfl rfl fun a hS => ?_)
            refine wpList_nil ?_
            try simp only [Exit.then, Exit.inBlock, ↓reduceIte, Nat.reduceEqDiff]
            exact ⟨IntKind.i64.wrap (g1848 + 1), (Option.some.inj hM).symm, (IntKind.i64.wrap (g1848 + 1)), rfl, (hS.meet [] (by decide) ⟨rfl, rfl, rfl, rfl, rfl, rfl, rfl, rfl, trivial⟩ trivial ⟨⟨2, rfl⟩, ⟨3, rfl⟩, ⟨4, rfl⟩, trivial⟩)⟩
        · replace hM := cf hb1864 hM
          refine c_f hS rfl hb1864 ?_
          refine wp_exit ?_
          try simp only [Exit.then, Exit.inBlock, ↓reduceIte, Nat.reduceEqDiff]
          injection hM with hM
          subst hM
          have hr := hf1 _ rfl
          subst hr
          replace hMo1 := el_go hMo1
          have hM : law24_ToyRules_j8 raw_ t_1 what_ at_3 by_4 = some y := hMo1
          exact ⟨(hS.meet [] (by decide) ⟨rfl, rfl, rfl, rfl, rfl, trivial⟩ trivial ⟨⟨0, rfl⟩, ⟨1, rfl⟩, ⟨2, rfl⟩, trivial⟩), hM⟩
      · rintro a w ⟨hS, hM⟩
        unfold law24_ToyRules_j8 at hM
        refine wp_seq_k fun K269 hK269 => ?_
        refine r_list ?_
        refine wl rfl (ky (v := v2) hS (y_move hS rfl) rfl rfl fun a hS => ?_)
        obtain ⟨u920, hu920, hM⟩ := bd hM
        refine wl rfl (k_call hS ci29 rfl rfl (mill_Roll_c _ _ hS.dlt t_1 _ (hS.get 1 rfl) _ hu920) fun _ w hR a hk hA => ?_)
        obtain ⟨bz921_2, vz921_3, he, hFbz921_2, hObz921_2, hRvz921_3⟩ := hR
        replace he := he.symm
        subst he
        have hS := hA [.box bz921_2 [vz921_3, .int .i64 u920.At] 104] (adds1 hObz921_2 (fun k hk => by simp only [Res.dom, Option.some.injEq] at hk; omega)) (pw1 _)
        replace hS := hS.fact (SlF (Rep.int .i64) vz921_3 u920.L) (hRvz921_3.sub (dT_dT _))
        obtain ⟨u923, hu923, hM⟩ := bd hM
        refine wl rfl (k_callmr hS ci28 rfl rfl 0 rfl (mill_Rules_c _ _ (hS.drop 0).dlt u920 _ _ (hS.boxRow 0 rfl) (hS.notin 0 rfl) (SlR.lent (i := 0) rfl (hS.get 0 rfl)) _ hu923) fun _ w hR hk => ?_)
        obtain ⟨vz924_3, clz924_4, vz924_5, he, ⟨hOvz924_3, hFvz924_3, hRvz924_3⟩, hrow, hRvz924_5⟩ := hR
        replace he := he.symm
        subst he
        refine ⟨[vz924_5, .int .i64 u923.2.At], [.own vz924_3 48 R_RuleD.size clz924_4], hrow, adds1 ⟨hOvz924_3, by decide⟩ hFvz924_3, pw1 _, fun a hS => ?_⟩
        replace hS := hS.fact (RowsF R_RuleD clz924_4 u923.1) (hRvz924_3.keep (Kt.refl _ _) (Nw.back2 (i := 0) rfl [.own vz924_3 48 R_RuleD.size clz924_4] _))
        replace hS := hS.fact (SlF (Rep.int .i64) vz924_5 u923.2.L) (hRvz924_5.sub (Nw.back2 (i := 0) rfl [.own vz924_3 48 R_RuleD.size clz924_4] _))
        refine wl rfl (ky (v := vz924_3) hS (y_assign hS rfl) rfl rfl fun a hS => ?_)
        refine wpList_nil ?_
        try simp only [Exit.then, Exit.inBlock, ↓reduceIte, Nat.reduceEqDiff]
        refine hK269 _ _ ?_
        refine wp_seq_k fun K270 hK270 => ?_
        refine wp_seq_k fun K271 hK271 => ?_
        refine r_list ?_
        refine wl rfl (ky (v := vz924_3) hS (y_move hS rfl) rfl rfl fun a hS => ?_)
        have hL := hS
        replace hL := hL.freeze (R := R_RuleD) 0 rfl 1 rfl
        obtain ⟨u926, hu926, hM⟩ := bd hM
        refine wl rfl (k_call hS ci30 rfl rfl (toy_Valid_c _ _ hL.dlt u923.1 _ (hL.get 0 rfl) _ hu926) fun _ w hR a hk hA => ?_)
        have he := Eq.symm hR
        subst he
        have hS := hA [] (fun r hr => by cases hr) List.Pairwise.nil
        refine wl rfl (ky (v := .bool (!(u926))) hS (y_not hS rfl) rfl rfl fun a hS => ?_)
        refine wpList_nil ?_
        try simp only [Exit.then, Exit.inBlock, ↓reduceIte, Nat.reduceEqDiff]
        refine hK271 _ _ ?_
        rcases bool2 (!(u926)) with hb928 | hb928
        · replace hM := ct hb928 hM
          refine c_t hS rfl hb928 ?_
          refine wp_seq_k fun K272 hK272 => ?_
          refine r_list ?_
          refine wl rfl (ky (v := .bool false) hS (y_assign hS rfl) rfl rfl fun a hS => ?_)
          refine wpList_nil ?_
          try simp only [Exit.then, Exit.inBlock, ↓reduceIte, Nat.reduceEqDiff]
          refine hK272 _ _ ?_
          refine wp_ret ?_
          injection hM with hM
          subst hM
          try simp only [Exit.then, Exit.inBlock, ↓reduceIte, Nat.reduceEqDiff]
          refine ret_ok hS Tryd.results5 (res_tmp hS rfl res_nil) ?_
          exact rfl
        · replace hM := cf hb928 hM
          refine c_f hS rfl hb928 ?_
          refine wp_skip ?_
          try simp only [Exit.then, Exit.inBlock, ↓reduceIte, Nat.reduceEqDiff]
          refine hK270 _ _ ?_
          refine wp_seq_k fun K273 hK273 => ?_
          refine r_list ?_
          refine wl rfl (ky (v := vz924_3) hS (y_move hS rfl) rfl rfl fun a hS => ?_)
          refine wl rfl (ky (v := .int .i64 at_3) hS (y_move hS rfl) rfl rfl fun a hS => ?_)
          refine wl rfl (ky (v := vz924_3) hS (y_move hS rfl) rfl rfl fun a hS => ?_)
          refine wl rfl (ky (v := .int .i64 (u923.1.length : Int)) hS (y_leno (R := R_RuleD) (xs := u923.1) hS sl44 rfl 0 rfl 1 rfl) rfl rfl fun a hS => ?_)
          obtain ⟨u929, hu929, hM⟩ := bd hM
          refine wl rfl (k_call hS ci13 rfl rfl (mill_Mod_c _ _ hS.dlt at_3 (u923.1.length : Int) _ hu929) fun _ w hR a hk hA => ?_)
          have he := Eq.symm hR
          subst he
          have hS := hA [] (fun r hr => by cases hr) List.Pairwise.nil
          obtain ⟨e931, he931, hM⟩ := bd hM
          refine wl rfl (k_indexo (R := R_RuleD) hS sl44 ty48 rfl rfl 0 rfl 1 rfl he931 rfl fun b933 o934 p939 cs936 hr935 hO937 hC938 a hS => ?_)
          obtain ⟨v932, rfl, hv932⟩ := hr935
          replace hS := hS.fact (SlF R_AskD v932 e931.Asks) hv932
          refine wl rfl (ky (v := .pointer (some ⟨b933, o934, none⟩)) hS (y_assign hS rfl) rfl rfl fun a hS => ?_)
          refine wpList_nil ?_
          try simp only [Exit.then, Exit.inBlock, ↓reduceIte, Nat.reduceEqDiff]
          refine hK273 _ _ ?_
          refine wp_seq_k fun K274 hK274 => ?_
          refine r_list ?_
          refine wl rfl (ky (v := .pointer (some ⟨b933, o934, none⟩)) hS (y_move hS rfl) rfl rfl fun a hS => ?_)
          refine wl rfl (ky (v := .pointer (some ⟨b933, o934, none⟩)) hS (y_move hS rfl) rfl rfl fun a hS => ?_)
          refine wl rfl (ky (v := .pointer (some ⟨b933, o934, none⟩)) hS (y_nil hS rfl) rfl rfl fun a hS => ?_)
          refine wl rfl (ky (v := .pointer (some ⟨b933, o934 + 1, none⟩)) hS (y_fld hS rfl fl48_1) rfl rfl fun a hS => ?_)
          refine wl rfl (ky (v := v932) hS (y_loado (k := 1) hS ty46 0 rfl hO937 hC938 rfl id (us := [v932]) rfl rfl (fun _ => rfl)) rfl rfl fun a hS => ?_)
          replace hS := hS.nilRow R_AskD 55 (by decide)
          obtain ⟨hg941, hM⟩ := gd_some hM
          refine wl rfl (k_apps (R := R_AskD) (xs := ([] : List AskD)) (ys := e931.Asks) hS el46 (by decide) (by decide) rfl rfl 0 rfl 0 rfl 1 rfl hg941 rfl fun v942 cl943 a w hk hS => ?_)
          refine wl rfl (ky (v := .pointer (some ⟨b933, o934, none⟩)) hS (y_nil hS rfl) rfl rfl fun a hS => ?_)
          refine wl rfl (ky (v := .pointer (some ⟨b933, o934 + 1, none⟩)) hS (y_fld hS rfl fl48_1) rfl rfl fun a hS => ?_)
          refine wl rfl (k_storeh0 (R := R_RuleD) (k := 1) (cs := [.bool e931.Ring, v932, .int .i64 e931.Final, .int .i64 e931.C]) (us := [v942]) hS rfl rfl (cells1 (own_one (hS.own _ (List.mem_of_getElem? (i := 0) rfl)).1)) ty46 1 rfl 4 rfl hO937 hC938 he931 (⟨_, rfl, (hS.get 2 rfl)⟩) rfl rfl (oc rfl (oc (own_one (hS.own _ (List.mem_of_getElem? (i := 0) rfl)).1) (oc rfl (oc rfl on)))) fun cl945 w hk hS => ?_)
          replace hS := (show St W0 No T 246 _ [.own v942 55 R_AskD.size cl943, .own vz924_3 48 R_RuleD.size cl945, .box bz921_2 [vz924_5, .int .i64 u923.2.At] 104] (RowsF (HR R_RuleD) cl945 (holeL u923.1 u929 [.bool e931.Ring, v942, .int .i64 e931.Final, .int .i64 e931.C]) :: _) _ _ from hS)
          refine wpList_nil ?_
          try simp only [Exit.then, Exit.inBlock, ↓reduceIte, Nat.reduceEqDiff]
          refine hK274 _ _ ?_
          refine seq_j (J := fun a w => ∃ (l1179 : (List RuleD)) (v1180 : Value) (cl1181 : (List Value)), St W0 No T 246 [(0, v1), (13, v1180)] [.own v1180 48 R_RuleD.size cl1181] [SlF R_RuleD v1 raw_, RowsF R_RuleD cl1181 l1179, LvF] a w ∧ law24_ToyRules_j5 raw_ l1179 = some y) ?_ ?_
          · skip
            refine wp_seq_k fun K526 hK526 => ?_
            refine r_list ?_
            refine wl rfl (ky (v := .int .i64 what_) hS (y_move hS rfl) rfl rfl fun a hS => ?_)
            obtain ⟨u1570, hu1570, hM⟩ := bd hM
            refine wl rfl (k_call hS ci13 rfl rfl (mill_Mod_c _ _ hS.dlt what_ 10 _ hu1570) fun _ w hR a hk hA => ?_)
            have he := Eq.symm hR
            subst he
            have hS := hA [] (fun r hr => by cases hr) List.Pairwise.nil
            refine wpList_nil ?_
            try simp only [Exit.then, Exit.inBlock, ↓reduceIte, Nat.reduceEqDiff]
            refine hK526 _ _ ?_
            refine wp_block ?_
            refine wp_seq_k fun K527 hK527 => ?_
            refine r_list ?_
            refine wl rfl (ky (v := .bool ((u1570 : Int) == 0)) hS (y_int hS rfl rfl rfl) rfl rfl fun a hS => ?_)
            refine wl rfl (ky (v := .bool ((u1570 : Int) == 0)) hS (y_assign hS rfl) rfl rfl fun a hS => ?_)
            refine wpList_nil ?_
            try simp only [Exit.then, Exit.inBlock, ↓reduceIte, Nat.reduceEqDiff]
            refine hK527 _ _ ?_
            rcases bool2 ((u1570 : Int) == 0) with hb1572 | hb1572
            · replace hM := ct hb1572 hM
              refine c_t hS rfl hb1572 ?_
              refine r_list ?_
              refine wl rfl (ky (v := .pointer (some ⟨b933, o934, none⟩)) hS (y_move hS rfl) rfl rfl fun a hS => ?_)
              refine wl rfl (ky (v := .pointer (some ⟨b933, o934, none⟩)) hS (y_move hS rfl) rfl rfl fun a hS => ?_)
              refine wl rfl (ky (v := .pointer (some ⟨b933, o934, none⟩)) hS (y_nil hS rfl) rfl rfl fun a hS => ?_)
              refine wl rfl (ky (v := .pointer (some ⟨b933, o934 + 0, none⟩)) hS (y_fld hS rfl fl48_0) rfl rfl fun a hS => ?_)
              have hC1573 := hole_cells (R := R_RuleD) hS 0 rfl hO937 he931
              refine wl rfl (ky (v := .bool e931.Ring) hS (y_loado (k := 0) hS ty4 1 rfl hO937 hC1573 rfl id (us := [.bool e931.Ring]) rfl rfl (fun _ => rfl)) rfl rfl fun a hS => ?_)
              refine wl rfl (ky (v := .bool (!(e931.Ring))) hS (y_not hS rfl) rfl rfl fun a hS => ?_)
              refine wl rfl (ky (v := .pointer (some ⟨b933, o934, none⟩)) hS (y_nil hS rfl) rfl rfl fun a hS => ?_)
              refine wl rfl (ky (v := .pointer (some ⟨b933, o934 + 0, none⟩)) hS (y_fld hS rfl fl48_0) rfl rfl fun a hS => ?_)
              refine wl rfl (k_storeh (R := R_RuleD) (k := 0) (cs := [.bool e931.Ring, v942, .int .i64 e931.Final, .int .i64 e931.C]) (us := [.bool (!(e931.Ring))]) hS rfl rfl rfl ty4 1 rfl 0 rfl hO937 he931 rfl rfl (oc rfl (oc (own_one (hS.own _ (List.mem_of_getElem? (i := 0) rfl)).1) (oc rfl (oc rfl on)))) fun cl1574 w hk hS => ?_)
              replace hS := (show St W0 No T 246 _ [.own v942 55 R_AskD.size cl943, .own vz924_3 48 R_RuleD.size cl1574, .box bz921_2 [vz924_5, .int .i64 u923.2.At] 104] (RowsF (HR R_RuleD) cl1574 (holeL u923.1 u929 [.bool (!(e931.Ring)), v942, .int .i64 e931.Final, .int .i64 e931.C]) :: _) _ _ from hS)
              refine wpList_nil ?_
              replace hS := hS.freeze (R := R_AskD) 0 rfl 2 rfl
              replace hS := hS.closeH (R := R_RuleD) (x' := (RuleD.mk (!(e931.Ring)) (([] : List AskD) ++ e931.Asks) e931.Final e931.C)) 1 rfl (⟨_, rfl, (hS.get 0 rfl)⟩)
              try simp only [Exit.then, Exit.inBlock, ↓reduceIte, Nat.reduceEqDiff]
              exact ⟨(u923.1.set (Int.toNat u929) (RuleD.mk (!(e931.Ring)) (([] : List AskD) ++ e931.Asks) e931.Final e931.C)), vz924_3, cl1574, (hS.meet [0] (by decide) ⟨rfl, rfl, trivial⟩ ⟨rfl, trivial⟩ ⟨⟨10, rfl⟩, ⟨0, rfl⟩, ⟨12, rfl⟩, trivial⟩), hM⟩
            · replace hM := cf hb1572 hM
              refine c_f hS rfl hb1572 ?_
              refine wp_seq_k fun K528 hK528 => ?_
              refine r_list ?_
              refine wl rfl (ky (v := .bool ((u1570 : Int) == 1)) hS (y_int hS rfl rfl rfl) rfl rfl fun a hS => ?_)
              refine wl rfl (ky (v := .bool ((u1570 : Int) == 1)) hS (y_assign hS rfl) rfl rfl fun a hS => ?_)
              refine wpList_nil ?_
              try simp only [Exit.then, Exit.inBlock, ↓reduceIte, Nat.reduceEqDiff]
              refine hK528 _ _ ?_
              rcases bool2 ((u1570 : Int) == 1) with hb1575 | hb1575
              · replace hM := ct hb1575 hM
                refine c_t hS rfl hb1575 ?_
                refine r_list ?_
                refine wl rfl (ky (v := .pointer (some ⟨b933, o934, none⟩)) hS (y_move hS rfl) rfl rfl fun a hS => ?_)
                refine wl rfl (ky (v := .int .i64 by_4) hS (y_move hS rfl) rfl rfl fun a hS => ?_)
                obtain ⟨u1576, hu1576, hM⟩ := bd hM
                refine wl rfl (k_call hS ci13 rfl rfl (mill_Mod_c _ _ hS.dlt by_4 7 _ hu1576) fun _ w hR a hk hA => ?_)
                have he := Eq.symm hR
                subst he
                have hS := hA [] (fun r hr => by cases hr) List.Pairwise.nil
                refine wl rfl (ky (v := .pointer (some ⟨b933, o934, none⟩)) hS (y_nil hS rfl) rfl rfl fun a hS => ?_)
                refine wl rfl (ky (v := .pointer (some ⟨b933, o934 + 2, none⟩)) hS (y_fld hS rfl fl48_2) rfl rfl fun a hS => ?_)
                refine wl rfl (k_storeh (R := R_RuleD) (k := 2) (cs := [.bool e931.Ring, v942, .int .i64 e931.Final, .int .i64 e931.C]) (us := [.int .i64 u1576]) hS rfl rfl rfl ty3 1 rfl 0 rfl hO937 he931 rfl rfl (oc rfl (oc (own_one (hS.own _ (List.mem_of_getElem? (i := 0) rfl)).1) (oc rfl (oc rfl on)))) fun cl1578 w hk hS => ?_)
                replace hS := (show St W0 No T 246 _ [.own v942 55 R_AskD.size cl943, .own vz924_3 48 R_RuleD.size cl1578, .box bz921_2 [vz924_5, .int .i64 u923.2.At] 104] (RowsF (HR R_RuleD) cl1578 (holeL u923.1 u929 [.bool e931.Ring, v942, .int .i64 u1576, .int .i64 e931.C]) :: _) _ _ from hS)
                refine wpList_nil ?_
                replace hS := hS.freeze (R := R_AskD) 0 rfl 2 rfl
                replace hS := hS.closeH (R := R_RuleD) (x' := (RuleD.mk e931.Ring (([] : List AskD) ++ e931.Asks) u1576 e931.C)) 1 rfl (⟨_, rfl, (hS.get 0 rfl)⟩)
                try simp only [Exit.then, Exit.inBlock, ↓reduceIte, Nat.reduceEqDiff]
                exact ⟨(u923.1.set (Int.toNat u929) (RuleD.mk e931.Ring (([] : List AskD) ++ e931.Asks) u1576 e931.C)), vz924_3, cl1578, (hS.meet [0] (by decide) ⟨rfl, rfl, trivial⟩ ⟨rfl, trivial⟩ ⟨⟨10, rfl⟩, ⟨0, rfl⟩, ⟨12, rfl⟩, trivial⟩), hM⟩
              · replace hM := cf hb1575 hM
                refine c_f hS rfl hb1575 ?_
                refine wp_seq_k fun K529 hK529 => ?_
                refine r_list ?_
                refine wl rfl (ky (v := .bool ((u1570 : Int) == 2)) hS (y_int hS rfl rfl rfl) rfl rfl fun a hS => ?_)
                refine wl rfl (ky (v := .bool ((u1570 : Int) == 2)) hS (y_assign hS rfl) rfl rfl fun a hS => ?_)
                refine wpList_nil ?_
                try simp only [Exit.then, Exit.inBlock, ↓reduceIte, Nat.reduceEqDiff]
                refine hK529 _ _ ?_
                rcases bool2 ((u1570 : Int) == 2) with hb1579 | hb1579
                · replace hM := ct hb1579 hM
                  refine c_t hS rfl hb1579 ?_
                  refine r_list ?_
                  refine wl rfl (ky (v := .pointer (some ⟨b933, o934, none⟩)) hS (y_move hS rfl) rfl rfl fun a hS => ?_)
                  refine wl rfl (k_bslice (ps := [(0, .const (.int .i64 (-1))), (1, .const (.int .i64 999)), (2, .const (.int .i64 1000)), (3, .const (.int .i64 65535)), (4, .const (.int .i64 65536))]) hS el39 ze3 (zl := [.int .i64 0, .int .i64 0, .int .i64 0, .int .i64 0, .int .i64 0]) (by kernel_rfl) rfl (us := [[.int .i64 (-1)], [.int .i64 999], [.int .i64 1000], [.int .i64 65535], [.int .i64 65536]]) ⟨rfl, ⟨rfl, ⟨rfl, ⟨rfl, ⟨rfl, trivial⟩⟩⟩⟩⟩ (ws := [.int .i64 (-1), .int .i64 999, .int .i64 1000, .int .i64 65535, .int .i64 65536]) rfl rfl rfl rfl fun b1580 a w hk hS => ?_)
                  refine wl rfl (ky (v := .int .i64 by_4) hS (y_move hS rfl) rfl rfl fun a hS => ?_)
                  obtain ⟨u1582, hu1582, hM⟩ := bd hM
                  refine wl rfl (k_call hS ci13 rfl rfl (mill_Mod_c _ _ hS.dlt by_4 5 _ hu1582) fun _ w hR a hk hA => ?_)
                  have he := Eq.symm hR
                  subst he
                  have hS := hA [] (fun r hr => by cases hr) List.Pairwise.nil
                  replace hS := hS.lit (R := (Rep.int .i64)) (us := [.int .i64 (-1), .int .i64 999, .int .i64 1000, .int .i64 65535, .int .i64 65536]) (xs := [(-1), 999, 1000, 65535, 65536]) 0 rfl (by decide) ((RowsOk.one_ (R := (Rep.int .i64)) (x := (-1)) rfl).append ((RowsOk.one_ (R := (Rep.int .i64)) (x := 999) rfl).append ((RowsOk.one_ (R := (Rep.int .i64)) (x := 1000) rfl).append ((RowsOk.one_ (R := (Rep.int .i64)) (x := 65535) rfl).append (RowsOk.one_ (R := (Rep.int .i64)) (x := 65536) rfl))))) rfl rfl
                  replace hS := hS.freeze (R := (Rep.int .i64)) 0 rfl 0 rfl
                  obtain ⟨e1584, he1584, hM⟩ := bd hM
                  refine wl rfl (k_index (R := (Rep.int .i64)) hS sl39 ty3 rfl rfl 0 rfl he1584 rfl fun b1585 o1586 cs1588 hr1587 a hS => ?_)
                  obtain rfl := hr1587
                  refine wl rfl (ky (v := .int .i64 e1584) hS (y_loadc (k := 0) hS ty3 0 rfl rfl (fun _ h => h.elim) (us := [.int .i64 e1584]) rfl rfl (fun _ => rfl)) rfl rfl fun a hS => ?_)
                  refine wl rfl (ky (v := .pointer (some ⟨b933, o934, none⟩)) hS (y_nil hS rfl) rfl rfl fun a hS => ?_)
                  refine wl rfl (ky (v := .pointer (some ⟨b933, o934 + 3, none⟩)) hS (y_fld hS rfl fl48_3) rfl rfl fun a hS => ?_)
                  refine wl rfl (k_storeh (R := R_RuleD) (k := 3) (cs := [.bool e931.Ring, v942, .int .i64 e931.Final, .int .i64 e931.C]) (us := [.int .i64 e1584]) hS rfl rfl rfl ty3 1 rfl 3 rfl hO937 he931 rfl rfl (oc rfl (oc (own_one (hS.own _ (List.mem_of_getElem? (i := 0) rfl)).1) (oc rfl (oc rfl on)))) fun cl1590 w hk hS => ?_)
                  replace hS := (show St W0 No T 246 _ [.own v942 55 R_AskD.size cl943, .own vz924_3 48 R_RuleD.size cl1590, .box bz921_2 [vz924_5, .int .i64 u923.2.At] 104] (RowsF (HR R_RuleD) cl1590 (holeL u923.1 u929 [.bool e931.Ring, v942, .int .i64 e931.Final, .int .i64 e1584]) :: _) _ _ from hS)
                  refine wpList_nil ?_
                  replace hS := hS.freeze (R := R_AskD) 0 rfl 5 rfl
                  replace hS := hS.closeH (R := R_RuleD) (x' := (RuleD.mk e931.Ring (([] : List AskD) ++ e931.Asks) e931.Final e1584)) 1 rfl (⟨_, rfl, (hS.get 0 rfl)⟩)
                  try simp only [Exit.then, Exit.inBlock, ↓reduceIte, Nat.reduceEqDiff]
                  exact ⟨(u923.1.set (Int.toNat u929) (RuleD.mk e931.Ring (([] : List AskD) ++ e931.Asks) e931.Final e1584)), vz924_3, cl1590, (hS.meet [0] (by decide) ⟨rfl, rfl, trivial⟩ ⟨rfl, trivial⟩ ⟨⟨13, rfl⟩, ⟨0, rfl⟩, ⟨15, rfl⟩, trivial⟩), hM⟩
                · replace hM := cf hb1579 hM
                  refine c_f hS rfl hb1579 ?_
                  refine wp_seq_k fun K530 hK530 => ?_
                  refine r_list ?_
                  refine wl rfl (ky (v := .bool ((u1570 : Int) == 3)) hS (y_int hS rfl rfl rfl) rfl rfl fun a hS => ?_)
                  refine wl rfl (ky (v := .bool ((u1570 : Int) == 3)) hS (y_assign hS rfl) rfl rfl fun a hS => ?_)
                  refine wpList_nil ?_
                  try simp only [Exit.then, Exit.inBlock, ↓reduceIte, Nat.reduceEqDiff]
                  refine hK530 _ _ ?_
                  rcases bool2 ((u1570 : Int) == 3) with hb1591 | hb1591
                  · replace hM := ct hb1591 hM
                    refine c_t hS rfl hb1591 ?_
                    refine draws [(14, .blk (Value.ownBlock v942)), (17, .blk (Value.ownBlock vz924_3))] hS mixed rfl (fun c a d v w h => by cases d <;> exact h) fun w hQ hS => ?_
                    refine dy 0 (v := .pointer (some ⟨b933, o934, none⟩)) rfl (by kernel_rfl) (by kernel_rfl) (by kernel_rfl) rfl hQ hS (y_move hS rfl) rfl rfl rfl fun a hS => ?_
                    refine dy 1 (v := .pointer (some ⟨b933, o934, none⟩)) rfl (by kernel_rfl) (by kernel_rfl) (by kernel_rfl) rfl hQ hS (y_move hS rfl) rfl rfl rfl fun a hS => ?_
                    refine dy 2 (v := .pointer (some ⟨b933, o934, none⟩)) rfl (by kernel_rfl) (by kernel_rfl) (by kernel_rfl) rfl hQ hS (y_nil hS rfl) rfl rfl rfl fun a hS => ?_
                    refine dy 3 (v := .pointer (some ⟨b933, o934 + 1, none⟩)) rfl (by kernel_rfl) (by kernel_rfl) (by kernel_rfl) rfl hQ hS (y_fld hS rfl fl48_1) rfl rfl rfl fun a hS => ?_
                    have hC1602 := hole_cells (R := R_RuleD) hS 0 rfl hO937 he931
                    refine dy (l := []) 4 (v := v942) rfl (by kernel_rfl) (by kernel_rfl) (by kernel_rfl) (by kernel_rfl) hQ hS (y_loado (k := 1) hS ty46 1 rfl hO937 hC1602 rfl eo_nil (us := [v942]) rfl rfl (fun _ => rfl)) rfl rfl rfl fun a hS => ?_
                    refine dy 5 (v := .int .i64 by_4) rfl (by kernel_rfl) (by kernel_rfl) (by kernel_rfl) rfl hQ hS (y_move hS rfl) rfl rfl rfl fun a hS => ?_
                    refine dy 6 (v := .int .i64 (Int.tmod by_4 2)) rfl (by kernel_rfl) (by kernel_rfl) (by kernel_rfl) rfl hQ hS (y_rem hS rfl rfl (by decide)) rfl rfl rfl fun a hS => ?_
                    refine dy 7 (v := .bool ((Int.tmod by_4 2 : Int) == 0)) rfl (by kernel_rfl) (by kernel_rfl) (by kernel_rfl) rfl hQ hS (y_int hS rfl rfl rfl) rfl rfl rfl fun a hS => ?_
                    refine dy 8 (v := .int .i64 by_4) rfl (by kernel_rfl) (by kernel_rfl) (by kernel_rfl) rfl hQ hS (y_move hS rfl) rfl rfl rfl fun a hS => ?_
                    refine dy 9 (v := .int .i64 (IntKind.i64.wrap (Int.tdiv by_4 2))) rfl (by kernel_rfl) (by kernel_rfl) (by kernel_rfl) rfl hQ hS (y_quo hS rfl rfl (by decide)) rfl rfl rfl fun a hS => ?_
                    obtain ⟨u1603, hu1603, hM⟩ := bd hM
                    refine wpE_one (i := 10) rfl (by kernel_rfl) rfl (k_call hS ci13 rfl rfl (mill_Mod_c _ _ hS.dlt (IntKind.i64.wrap (Int.tdiv by_4 2)) 18 _ hu1603) fun _ w hR a hk hA => ⟨stN (hk), ?_⟩)
                    have he := Eq.symm hR
                    subst he
                    have hS := hA [] (fun r hr => by cases hr) List.Pairwise.nil
                    refine dy 11 (v := .int .i64 (IntKind.i64.wrap (u1603 - 1))) rfl (by kernel_rfl) (by kernel_rfl) (by kernel_rfl) rfl hQ hS (y_int hS rfl rfl rfl) rfl rfl rfl fun a hS => ?_
                    refine dy 12 (v := .agg #[.bool ((Int.tmod by_4 2 : Int) == 0), .bool false, .int .i64 (IntKind.i64.wrap (u1603 - 1)), .int .i64 0]) rfl (by kernel_rfl) (by kernel_rfl) (by kernel_rfl) rfl hQ hS (y_build (ps := [(0, .tmp 101), (2, .tmp 105)]) hS pl55 ze55 rfl (us := [[.bool ((Int.tmod by_4 2 : Int) == 0)], [.int .i64 (IntKind.i64.wrap (u1603 - 1))]]) ⟨rfl, ⟨rfl, trivial⟩⟩ (ws := [.bool ((Int.tmod by_4 2 : Int) == 0), .bool false, .int .i64 (IntKind.i64.wrap (u1603 - 1)), .int .i64 0]) rfl) rfl rfl rfl fun a hS => ?_
                    refine wpE_one (i := 13) rfl (by kernel_rfl) rfl (k_bslice (ps := [(0, .tmp 106)]) hS el46 ze55 (zl := [.bool false, .bool false, .int .i64 0, .int .i64 0]) (by kernel_rfl) rfl (us := [[.bool ((Int.tmod by_4 2 : Int) == 0), .bool false, .int .i64 (IntKind.i64.wrap (u1603 - 1)), .int .i64 0]]) ⟨rfl, trivial⟩ (ws := [.bool ((Int.tmod by_4 2 : Int) == 0), .bool false, .int .i64 (IntKind.i64.wrap (u1603 - 1)), .int .i64 0]) rfl rfl rfl rfl fun b1605 a w hk hS => ⟨stN (hk), ?_⟩)
                    replace hS := hS.lit (R := R_AskD) (us := [.bool ((Int.tmod by_4 2 : Int) == 0), .bool false, .int .i64 (IntKind.i64.wrap (u1603 - 1)), .int .i64 0]) (xs := [(AskD.mk ((Int.tmod by_4 2 : Int) == 0) false (IntKind.i64.wrap (u1603 - 1)) 0)]) 0 rfl (by decide) (RowsOk.one_ (R := R_AskD) (x := (AskD.mk ((Int.tmod by_4 2 : Int) == 0) false (IntKind.i64.wrap (u1603 - 1)) 0)) rfl) rfl rfl
                    replace hS := hS.freeze (R := R_AskD) 0 rfl 0 rfl
                    obtain ⟨hg1607, hM⟩ := gd_some hM
                    refine wpE_one (i := 14) rfl (by kernel_rfl) rfl (k_apps (R := R_AskD) (xs := (([] : List AskD) ++ e931.Asks)) (ys := [(AskD.mk ((Int.tmod by_4 2 : Int) == 0) false (IntKind.i64.wrap (u1603 - 1)) 0)]) hS el46 (by decide) (by decide) rfl rfl 0 rfl 3 rfl 0 rfl hg1607 rfl fun v1608 cl1609 a w hk hS => ⟨stM rfl hk etOwn, ?_⟩)
                    refine dy 15 (v := .pointer (some ⟨b933, o934, none⟩)) rfl (by kernel_rfl) (by kernel_rfl) (by kernel_rfl) rfl hQ hS (y_nil hS rfl) rfl rfl rfl fun a hS => ?_
                    refine dy 16 (v := .pointer (some ⟨b933, o934 + 1, none⟩)) rfl (by kernel_rfl) (by kernel_rfl) (by kernel_rfl) rfl hQ hS (y_fld hS rfl fl48_1) rfl rfl rfl fun a hS => ?_
                    refine wpE_one (i := 17) rfl (by kernel_rfl) rfl (k_storeh (R := R_RuleD) (k := 1) (cs := [.bool e931.Ring, v942, .int .i64 e931.Final, .int .i64 e931.C]) (us := [v1608]) hS rfl rfl (cells1 (own_one (hS.own _ (List.mem_of_getElem? (i := 0) rfl)).1)) ty46 1 rfl 3 rfl hO937 he931 rfl rfl (oc rfl (oc (own_one (hS.own _ (List.mem_of_getElem? (i := 0) rfl)).1) (oc rfl (oc rfl on)))) fun cl1611 w hk hS => ⟨stM rfl hk etOwn, ?_⟩)
                    replace hS := (show St W0 No T 246 _ [.own v1608 55 R_AskD.size cl1609, .own vz924_3 48 R_RuleD.size cl1611, .box bz921_2 [vz924_5, .int .i64 u923.2.At] 104] (RowsF (HR R_RuleD) cl1611 (holeL u923.1 u929 [.bool e931.Ring, v1608, .int .i64 e931.Final, .int .i64 e931.C]) :: _) _ _ from hS)
                    refine wpE_done (by kernel_rfl) ?_ _
                    replace hS := hS.freeze (R := R_AskD) 0 rfl 1 rfl
                    replace hS := hS.closeH (R := R_RuleD) (x' := (RuleD.mk e931.Ring ((([] : List AskD) ++ e931.Asks) ++ ([(AskD.mk ((Int.tmod by_4 2 : Int) == 0) false (IntKind.i64.wrap (u1603 - 1)) 0)])) e931.Final e931.C)) 1 rfl (⟨_, rfl, (hS.get 0 rfl)⟩)
                    try simp only [Exit.then, Exit.inBlock, ↓reduceIte, Nat.reduceEqDiff]
                    exact ⟨(u923.1.set (Int.toNat u929) (RuleD.mk e931.Ring ((([] : List AskD) ++ e931.Asks) ++ ([(AskD.mk ((Int.tmod by_4 2 : Int) == 0) false (IntKind.i64.wrap (u1603 - 1)) 0)])) e931.Final e931.C)), vz924_3, cl1611, (hS.meet [0] (by decide) ⟨rfl, rfl, trivial⟩ ⟨rfl, trivial⟩ ⟨⟨13, rfl⟩, ⟨0, rfl⟩, ⟨15, rfl⟩, trivial⟩), hM⟩
                  · replace hM := cf hb1591 hM
                    refine c_f hS rfl hb1591 ?_
                    refine wp_seq_k fun K531 hK531 => ?_
                    refine r_list ?_
                    refine wl rfl (ky (v := .bool ((u1570 : Int) == 4)) hS (y_int hS rfl rfl rfl) rfl rfl fun a hS => ?_)
                    refine wl rfl (ky (v := .bool ((u1570 : Int) == 4)) hS (y_assign hS rfl) rfl rfl fun a hS => ?_)
                    refine wpList_nil ?_
                    try simp only [Exit.then, Exit.inBlock, ↓reduceIte, Nat.reduceEqDiff]
                    refine hK531 _ _ ?_
                    rcases bool2 ((u1570 : Int) == 4) with hb1612 | hb1612
                    · replace hM := ct hb1612 hM
                      refine c_t hS rfl hb1612 ?_
                      refine draws [(12, .blk (Value.ownBlock v942)), (15, .blk (Value.ownBlock vz924_3))] hS mixed rfl (fun c a d v w h => by cases d <;> exact h) fun w hQ hS => ?_
                      refine dy 0 (v := .pointer (some ⟨b933, o934, none⟩)) rfl (by kernel_rfl) (by kernel_rfl) (by kernel_rfl) rfl hQ hS (y_move hS rfl) rfl rfl rfl fun a hS => ?_
                      refine dy 1 (v := .pointer (some ⟨b933, o934, none⟩)) rfl (by kernel_rfl) (by kernel_rfl) (by kernel_rfl) rfl hQ hS (y_move hS rfl) rfl rfl rfl fun a hS => ?_
                      refine dy 2 (v := .pointer (some ⟨b933, o934, none⟩)) rfl (by kernel_rfl) (by kernel_rfl) (by kernel_rfl) rfl hQ hS (y_nil hS rfl) rfl rfl rfl fun a hS => ?_
                      refine dy 3 (v := .pointer (some ⟨b933, o934 + 1, none⟩)) rfl (by kernel_rfl) (by kernel_rfl) (by kernel_rfl) rfl hQ hS (y_fld hS rfl fl48_1) rfl rfl rfl fun a hS => ?_
                      have hC1625 := hole_cells (R := R_RuleD) hS 0 rfl hO937 he931
                      refine dy (l := []) 4 (v := v942) rfl (by kernel_rfl) (by kernel_rfl) (by kernel_rfl) (by kernel_rfl) hQ hS (y_loado (k := 1) hS ty46 1 rfl hO937 hC1625 rfl eo_nil (us := [v942]) rfl rfl (fun _ => rfl)) rfl rfl rfl fun a hS => ?_
                      refine dy 5 (v := .int .i64 by_4) rfl (by kernel_rfl) (by kernel_rfl) (by kernel_rfl) rfl hQ hS (y_move hS rfl) rfl rfl rfl fun a hS => ?_
                      refine dy 7 (v := .int .i64 by_4) rfl (by kernel_rfl) (by kernel_rfl) (by kernel_rfl) rfl hQ hS (y_move hS rfl) rfl rfl rfl fun a hS => ?_
                      refine dy 8 (v := .int .i64 (IntKind.i64.wrap (Int.tdiv by_4 9))) rfl (by kernel_rfl) (by kernel_rfl) (by kernel_rfl) rfl hQ hS (y_quo hS rfl rfl (by decide)) rfl rfl rfl fun a hS => ?_
                      obtain ⟨u1626, hu1626, hM⟩ := bd hM
                      refine wpE_one (i := 6) rfl (by kernel_rfl) rfl (k_call hS ci13 rfl rfl (mill_Mod_c _ _ hS.dlt by_4 9 _ hu1626) fun _ w hR a hk hA => ⟨stN (hk), ?_⟩)
                      have he := Eq.symm hR
                      subst he
                      have hS := hA [] (fun r hr => by cases hr) List.Pairwise.nil
                      obtain ⟨u1628, hu1628, hM⟩ := bd hM
                      refine wpE_one (i := 9) rfl (by kernel_rfl) rfl (k_call hS ci13 rfl rfl (mill_Mod_c _ _ hS.dlt (IntKind.i64.wrap (Int.tdiv by_4 9)) 9 _ hu1628) fun _ w hR a hk hA => ⟨stN (hk), ?_⟩)
                      have he := Eq.symm hR
                      subst he
                      have hS := hA [] (fun r hr => by cases hr) List.Pairwise.nil
                      refine dy 10 (v := .agg #[.bool false, .bool true, .int .i64 u1626, .int .i64 u1628]) rfl (by kernel_rfl) (by kernel_rfl) (by kernel_rfl) rfl hQ hS (y_build (ps := [(1, .const (.bool true)), (2, .tmp 119), (3, .tmp 122)]) hS pl55 ze55 rfl (us := [[.bool true], [.int .i64 u1626], [.int .i64 u1628]]) ⟨rfl, ⟨rfl, ⟨rfl, trivial⟩⟩⟩ (ws := [.bool false, .bool true, .int .i64 u1626, .int .i64 u1628]) rfl) rfl rfl rfl fun a hS => ?_
                      refine wpE_one (i := 11) rfl (by kernel_rfl) rfl (k_bslice (ps := [(0, .tmp 123)]) hS el46 ze55 (zl := [.bool false, .bool false, .int .i64 0, .int .i64 0]) (by kernel_rfl) rfl (us := [[.bool false, .bool true, .int .i64 u1626, .int .i64 u1628]]) ⟨rfl, trivial⟩ (ws := [.bool false, .bool true, .int .i64 u1626, .int .i64 u1628]) rfl rfl rfl rfl fun b1630 a w hk hS => ⟨stN (hk), ?_⟩)
                      replace hS := hS.lit (R := R_AskD) (us := [.bool false, .bool true, .int .i64 u1626, .int .i64 u1628]) (xs := [(AskD.mk false true u1626 u1628)]) 0 rfl (by decide) (RowsOk.one_ (R := R_AskD) (x := (AskD.mk false true u1626 u1628)) rfl) rfl rfl
                      replace hS := hS.freeze (R := R_AskD) 0 rfl 0 rfl
                      obtain ⟨hg1632, hM⟩ := gd_some hM
                      refine wpE_one (i := 12) rfl (by kernel_rfl) rfl (k_apps (R := R_AskD) (xs := (([] : List AskD) ++ e931.Asks)) (ys := [(AskD.mk false true u1626 u1628)]) hS el46 (by decide) (by decide) rfl rfl 0 rfl 3 rfl 0 rfl hg1632 rfl fun v1633 cl1634 a w hk hS => ⟨stM rfl hk etOwn, ?_⟩)
                      refine dy 13 (v := .pointer (some ⟨b933, o934, none⟩)) rfl (by kernel_rfl) (by kernel_rfl) (by kernel_rfl) rfl hQ hS (y_nil hS rfl) rfl rfl rfl fun a hS => ?_
                      refine dy 14 (v := .pointer (some ⟨b933, o934 + 1, none⟩)) rfl (by kernel_rfl) (by kernel_rfl) (by kernel_rfl) rfl hQ hS (y_fld hS rfl fl48_1) rfl rfl rfl fun a hS => ?_
                      refine wpE_one (i := 15) rfl (by kernel_rfl) rfl (k_storeh (R := R_RuleD) (k := 1) (cs := [.bool e931.Ring, v942, .int .i64 e931.Final, .int .i64 e931.C]) (us := [v1633]) hS rfl rfl (cells1 (own_one (hS.own _ (List.mem_of_getElem? (i := 0) rfl)).1)) ty46 1 rfl 3 rfl hO937 he931 rfl rfl (oc rfl (oc (own_one (hS.own _ (List.mem_of_getElem? (i := 0) rfl)).1) (oc rfl (oc rfl on)))) fun cl1636 w hk hS => ⟨stM rfl hk etOwn, ?_⟩)
                      replace hS := (show St W0 No T 246 _ [.own v1633 55 R_AskD.size cl1634, .own vz924_3 48 R_RuleD.size cl1636, .box bz921_2 [vz924_5, .int .i64 u923.2.At] 104] (RowsF (HR R_RuleD) cl1636 (holeL u923.1 u929 [.bool e931.Ring, v1633, .int .i64 e931.Final, .int .i64 e931.C]) :: _) _ _ from hS)
                      refine wpE_done (by kernel_rfl) ?_ _
                      replace hS := hS.freeze (R := R_AskD) 0 rfl 1 rfl
                      replace hS := hS.closeH (R := R_RuleD) (x' := (RuleD.mk e931.Ring ((([] : List AskD) ++ e931.Asks) ++ ([(AskD.mk false true u1626 u1628)])) e931.Final e931.C)) 1 rfl (⟨_, rfl, (hS.get 0 rfl)⟩)
                      try simp only [Exit.then, Exit.inBlock, ↓reduceIte, Nat.reduceEqDiff]
                      exact ⟨(u923.1.set (Int.toNat u929) (RuleD.mk e931.Ring ((([] : List AskD) ++ e931.Asks) ++ ([(AskD.mk false true u1626 u1628)])) e931.Final e931.C)), vz924_3, cl1636, (hS.meet [0] (by decide) ⟨rfl, rfl, trivial⟩ ⟨rfl, trivial⟩ ⟨⟨13, rfl⟩, ⟨0, rfl⟩, ⟨15, rfl⟩, trivial⟩), hM⟩
                    · replace hM := cf hb1612 hM
                      refine c_f hS rfl hb1612 ?_
                      refine wp_seq_k fun K532 hK532 => ?_
                      refine r_list ?_
                      refine wl rfl (ky (v := .bool ((u1570 : Int) == 5)) hS (y_int hS rfl rfl rfl) rfl rfl fun a hS => ?_)
                      refine wl rfl (ky (v := .bool ((u1570 : Int) == 5)) hS (y_assign hS rfl) rfl rfl fun a hS => ?_)
                      refine wpList_nil ?_
                      try simp only [Exit.then, Exit.inBlock, ↓reduceIte, Nat.reduceEqDiff]
                      refine hK532 _ _ ?_
                      rcases bool2 ((u1570 : Int) == 5) with hb1637 | hb1637
                      · replace hM := ct hb1637 hM
                        refine c_t hS rfl hb1637 ?_
                        refine wp_seq_k fun K533 hK533 => ?_
                        refine r_list ?_
                        refine wl rfl (ky (v := .pointer (some ⟨b933, o934, none⟩)) hS (y_move hS rfl) rfl rfl fun a hS => ?_)
                        refine wl rfl (ky (v := .pointer (some ⟨b933, o934, none⟩)) hS (y_nil hS rfl) rfl rfl fun a hS => ?_)
                        refine wl rfl (ky (v := .pointer (some ⟨b933, o934 + 1, none⟩)) hS (y_fld hS rfl fl48_1) rfl rfl fun a hS => ?_)
                        have hC1638 := hole_cells (R := R_RuleD) hS 0 rfl hO937 he931
                        refine wl rfl (ky (v := v942) hS (y_loado (k := 1) hS ty46 1 rfl hO937 hC1638 rfl id (us := [v942]) rfl rfl (fun _ => rfl)) rfl rfl fun a hS => ?_)
                        refine wl rfl (ky (v := .int .i64 ((([] : List AskD) ++ e931.Asks).length : Int)) hS (y_leno (R := R_AskD) (xs := (([] : List AskD) ++ e931.Asks)) hS sl46 rfl 0 rfl 1 rfl) rfl rfl fun a hS => ?_)
                        refine wl rfl (ky (v := .bool (decide ((0 : Int) < ((([] : List AskD) ++ e931.Asks).length : Int)))) hS (y_int hS rfl rfl rfl) rfl rfl fun a hS => ?_)
                        refine wpList_nil ?_
                        try simp only [Exit.then, Exit.inBlock, ↓reduceIte, Nat.reduceEqDiff]
                        refine hK533 _ _ ?_
                        rcases bool2 (decide ((0 : Int) < ((([] : List AskD) ++ e931.Asks).length : Int))) with hb1639 | hb1639
                        · replace hM := ct hb1639 hM
                          refine c_t hS rfl hb1639 ?_
                          refine draws [(14, .blk (Value.ownBlock v942))] hS mixed rfl (fun c a d v w h => by cases d <;> exact h) fun w hQ hS => ?_
                          refine dy 0 (v := .pointer (some ⟨b933, o934, none⟩)) rfl (by kernel_rfl) (by kernel_rfl) (by kernel_rfl) rfl hQ hS (y_move hS rfl) rfl rfl rfl fun a hS => ?_
                          refine dy 1 (v := .pointer (some ⟨b933, o934, none⟩)) rfl (by kernel_rfl) (by kernel_rfl) (by kernel_rfl) rfl hQ hS (y_nil hS rfl) rfl rfl rfl fun a hS => ?_
                          refine dy 2 (v := .pointer (some ⟨b933, o934 + 1, none⟩)) rfl (by kernel_rfl) (by kernel_rfl) (by kernel_rfl) rfl hQ hS (y_fld hS rfl fl48_1) rfl rfl rfl fun a hS => ?_
                          have hC1661 := hole_cells (R := R_RuleD) hS 0 rfl hO937 he931
                          refine dy (l := []) 3 (v := v942) rfl (by kernel_rfl) (by kernel_rfl) (by kernel_rfl) (by kernel_rfl) hQ hS (y_loado (k := 1) hS ty46 1 rfl hO937 hC1661 rfl eo_nil (us := [v942]) rfl rfl (fun _ => rfl)) rfl rfl rfl fun a hS => ?_
                          refine dy 4 (v := .pointer (some ⟨b933, o934, none⟩)) rfl (by kernel_rfl) (by kernel_rfl) (by kernel_rfl) rfl hQ hS (y_move hS rfl) rfl rfl rfl fun a hS => ?_
                          refine dy 5 (v := .pointer (some ⟨b933, o934, none⟩)) rfl (by kernel_rfl) (by kernel_rfl) (by kernel_rfl) rfl hQ hS (y_nil hS rfl) rfl rfl rfl fun a hS => ?_
                          refine dy 6 (v := .pointer (some ⟨b933, o934 + 1, none⟩)) rfl (by kernel_rfl) (by kernel_rfl) (by kernel_rfl) rfl hQ hS (y_fld hS rfl fl48_1) rfl rfl rfl fun a hS => ?_
                          have hC1662 := hole_cells (R := R_RuleD) hS 0 rfl hO937 he931
                          refine dy (l := []) 7 (v := v942) rfl (by kernel_rfl) (by kernel_rfl) (by kernel_rfl) (by kernel_rfl) hQ hS (y_loado (k := 1) hS ty46 1 rfl hO937 hC1662 rfl eo_nil (us := [v942]) rfl rfl (fun _ => rfl)) rfl rfl rfl fun a hS => ?_
                          obtain ⟨e1663, he1663, hM⟩ := bd hM
                          obtain ⟨b1664, o1665, p1670, cs1667, hr1666, hO1668, hC1669, hy1671⟩ := d_indexo (R := R_AskD) hS sl46 ty55 0 rfl 1 rfl he1663
                          obtain rfl := hr1666
                          refine dy 8 (v := .pointer (some ⟨b1664, o1665, none⟩)) rfl (by kernel_rfl) (by kernel_rfl) (by kernel_rfl) rfl hQ hS (hy1671 rfl rfl) rfl rfl rfl fun a hS => ?_
                          refine dy 9 (v := .pointer (some ⟨b1664, o1665 + 1, none⟩)) rfl (by kernel_rfl) (by kernel_rfl) (by kernel_rfl) rfl hQ hS (y_fld hS rfl fl55_1) rfl rfl rfl fun a hS => ?_
                          refine dy (l := []) 10 (v := .bool e1663.Pick) rfl (by kernel_rfl) (by kernel_rfl) (by kernel_rfl) (by kernel_rfl) hQ hS (y_loado (k := 1) hS ty4 0 rfl hO1668 hC1669 rfl eo_nil (us := [.bool e1663.Pick]) rfl rfl (fun _ => rfl)) rfl rfl rfl fun a hS => ?_
                          refine dy 11 (v := .bool (!(e1663.Pick))) rfl (by kernel_rfl) (by kernel_rfl) (by kernel_rfl) rfl hQ hS (y_not hS rfl) rfl rfl rfl fun a hS => ?_
                          obtain ⟨e1672, he1672, hM⟩ := bd hM
                          obtain ⟨b1673, o1674, p1679, cs1676, hr1675, hO1677, hC1678, hy1680⟩ := d_indexo (R := R_AskD) hS sl46 ty55 0 rfl 1 rfl he1672
                          obtain rfl := hr1675
                          refine dy 12 (v := .pointer (some ⟨b1673, o1674, none⟩)) rfl (by kernel_rfl) (by kernel_rfl) (by kernel_rfl) rfl hQ hS (hy1680 rfl rfl) rfl rfl rfl fun a hS => ?_
                          refine dy 13 (v := .pointer (some ⟨b1673, o1674 + 1, none⟩)) rfl (by kernel_rfl) (by kernel_rfl) (by kernel_rfl) rfl hQ hS (y_fld hS rfl fl55_1) rfl rfl rfl fun a hS => ?_
                          refine wpE_one (i := 14) rfl (by kernel_rfl) rfl (k_storeo (R := R_AskD) (k := 1) (cs := [.bool e1672.Cell, .bool e1672.Pick, .int .i64 e1672.N, .int .i64 e1672.Else]) (us := [.bool (!(e1663.Pick))]) (x' := (AskD.mk e1672.Cell (!(e1663.Pick)) e1672.N e1672.Else)) hS rfl rfl rfl ty4 0 rfl 1 rfl hO1677 hC1678 he1672 rfl rfl rfl rfl fun cl1681 w hk hS => ⟨stM rfl hk etOwn, ?_⟩)
                          refine wpE_done (by kernel_rfl) ?_ _
                          replace hS := hS.freeze (R := R_AskD) 0 rfl 0 rfl
                          replace hS := hS.closeH (R := R_RuleD) (x' := (RuleD.mk e931.Ring ((([] : List AskD) ++ e931.Asks).set (Int.toNat 0) (AskD.mk e1672.Cell (!(e1663.Pick)) e1672.N e1672.Else)) e931.Final e931.C)) 2 rfl (⟨_, rfl, (hS.get 0 rfl)⟩)
                          try simp only [Exit.then, Exit.inBlock, ↓reduceIte, Nat.reduceEqDiff]
                          exact ⟨(u923.1.set (Int.toNat u929) (RuleD.mk e931.Ring ((([] : List AskD) ++ e931.Asks).set (Int.toNat 0) (AskD.mk e1672.Cell (!(e1663.Pick)) e1672.N e1672.Else)) e931.Final e931.C)), vz924_3, cl945, (hS.meet [0] (by decide) ⟨rfl, rfl, trivial⟩ ⟨rfl, trivial⟩ ⟨⟨10, rfl⟩, ⟨0, rfl⟩, ⟨12, rfl⟩, trivial⟩), hM⟩
                        · replace hM := cf hb1639 hM
                          refine c_f hS rfl hb1639 ?_
                          refine wp_skip ?_
                          replace hS := hS.freeze (R := R_AskD) 0 rfl 1 rfl
                          replace hS := hS.closeH (R := R_RuleD) (x' := (RuleD.mk e931.Ring (([] : List AskD) ++ e931.Asks) e931.Final e931.C)) 1 rfl (⟨_, rfl, (hS.get 0 rfl)⟩)
                          try simp only [Exit.then, Exit.inBlock, ↓reduceIte, Nat.reduceEqDiff]
                          exact ⟨(u923.1.set (Int.toNat u929) (RuleD.mk e931.Ring (([] : List AskD) ++ e931.Asks) e931.Final e931.C)), vz924_3, cl945, (hS.meet [0] (by decide) ⟨rfl, rfl, trivial⟩ ⟨rfl, trivial⟩ ⟨⟨9, rfl⟩, ⟨0, rfl⟩, ⟨11, rfl⟩, trivial⟩), hM⟩
                      · replace hM := cf hb1637 hM
                        refine c_f hS rfl hb1637 ?_
                        refine wp_seq_k fun K534 hK534 => ?_
                        refine r_list ?_
                        refine wl rfl (ky (v := .bool ((u1570 : Int) == 6)) hS (y_int hS rfl rfl rfl) rfl rfl fun a hS => ?_)
                        refine wl rfl (ky (v := .bool ((u1570 : Int) == 6)) hS (y_assign hS rfl) rfl rfl fun a hS => ?_)
                        refine wpList_nil ?_
                        try simp only [Exit.then, Exit.inBlock, ↓reduceIte, Nat.reduceEqDiff]
                        refine hK534 _ _ ?_
                        rcases bool2 ((u1570 : Int) == 6) with hb1682 | hb1682
                        · replace hM := ct hb1682 hM
                          refine c_t hS rfl hb1682 ?_
                          refine wp_block ?_
                          obtain ⟨r1, hl1, hMo1⟩ := bd hM
                          refine wp_lp (fun s : (List AskD) => law24_ToyRules_l6 by_4 u923 u929 e931 s) (fun s a w => ∃ (l1711 : (List AskD)) (cl1710 : (List Value)) (v1712 : Value) (cl1713 : (List Value)), l1711 = s ∧ St W0 No T 246 [(0, v1), (4, .int .i64 by_4), (13, vz924_3), (14, .pointer (some ⟨b933, o934, none⟩))] [.own vz924_3 48 R_RuleD.size cl1710, .own v1712 55 R_AskD.size cl1713] [SlF R_RuleD v1 raw_, RowsF R_AskD cl1713 l1711, RowsF (HR R_RuleD) cl1710 (holeL u923.1 u929 [.bool e931.Ring, v1712, .int .i64 e931.Final, .int .i64 e931.C]), LvF] a w) hl1 ⟨(([] : List AskD) ++ e931.Asks), cl945, v942, cl943, rfl, (hS.meet [1, 0] (by decide) ⟨rfl, rfl, rfl, rfl, trivial⟩ ⟨rfl, rfl, trivial⟩ ⟨⟨7, rfl⟩, ⟨1, rfl⟩, ⟨0, rfl⟩, ⟨9, rfl⟩, trivial⟩)⟩ ?_
                          rintro s a w f1 ⟨l1711, cl1710, v1712, cl1713, rfl, hS⟩ hM hf1
                          have hM : law24_ToyRules_l6 by_4 u923 u929 e931 l1711 = some f1 := hM
                          unfold law24_ToyRules_l6 at hM
                          refine wp_seq_k fun K539 hK539 => ?_
                          refine wp_seq_k fun K540 hK540 => ?_
                          refine draws [] hS mixed rfl (fun c a d v w h => by cases d <;> exact h) fun w hQ hS => ?_
                          refine dy 0 (v := .pointer (some ⟨b933, o934, none⟩)) rfl (by kernel_rfl) (by kernel_rfl) (by kernel_rfl) rfl hQ hS (y_move hS rfl) rfl rfl rfl fun a hS => ?_
                          refine dy 1 (v := .pointer (some ⟨b933, o934, none⟩)) rfl (by kernel_rfl) (by kernel_rfl) (by kernel_rfl) rfl hQ hS (y_nil hS rfl) rfl rfl rfl fun a hS => ?_
                          refine dy 2 (v := .pointer (some ⟨b933, o934 + 1, none⟩)) rfl (by kernel_rfl) (by kernel_rfl) (by kernel_rfl) rfl hQ hS (y_fld hS rfl fl48_1) rfl rfl rfl fun a hS => ?_
                          have hC1750 := hole_cells (R := R_RuleD) hS 2 rfl hO937 he931
                          refine dy (l := []) 3 (v := v1712) rfl (by kernel_rfl) (by kernel_rfl) (by kernel_rfl) (by kernel_rfl) hQ hS (y_loado (k := 1) hS ty46 0 rfl hO937 hC1750 rfl eo_nil (us := [v1712]) rfl rfl (fun _ => rfl)) rfl rfl rfl fun a hS => ?_
                          refine dy 4 (v := .int .i64 (l1711.length : Int)) rfl (by kernel_rfl) (by kernel_rfl) (by kernel_rfl) rfl hQ hS (y_leno (R := R_AskD) (xs := l1711) hS sl46 rfl 1 rfl 1 rfl) rfl rfl rfl fun a hS => ?_
                          refine dy 5 (v := .int .i64 by_4) rfl (by kernel_rfl) (by kernel_rfl) (by kernel_rfl) rfl hQ hS (y_move hS rfl) rfl rfl rfl fun a hS => ?_
                          obtain ⟨u1751, hu1751, hM⟩ := bd hM
                          refine wpE_one (i := 6) rfl (by kernel_rfl) rfl (k_call hS ci13 rfl rfl (mill_Mod_c _ _ hS.dlt by_4 2 _ hu1751) fun _ w hR a hk hA => ⟨stN (hk), ?_⟩)
                          have he := Eq.symm hR
                          subst he
                          have hS := hA [] (fun r hr => by cases hr) List.Pairwise.nil
                          refine dy 7 (v := .int .i64 (IntKind.i64.wrap (6 + u1751))) rfl (by kernel_rfl) (by kernel_rfl) (by kernel_rfl) rfl hQ hS (y_int hS rfl rfl rfl) rfl rfl rfl fun a hS => ?_
                          refine dy 8 (v := .bool (decide (((l1711.length : Int) : Int) < (IntKind.i64.wrap (6 + u1751))))) rfl (by kernel_rfl) (by kernel_rfl) (by kernel_rfl) rfl hQ hS (y_int hS rfl rfl rfl) rfl rfl rfl fun a hS => ?_
                          refine wpE_done (by kernel_rfl) ?_ _
                          try simp only [Exit.then, Exit.inBlock, ↓reduceIte, Nat.reduceEqDiff]
                          refine hK540 _ _ ?_
                          rcases bool2 (decide (((l1711.length : Int) : Int) < (IntKind.i64.wrap (6 + u1751)))) with hb1753 | hb1753
                          · replace hM := ct hb1753 hM
                            refine c_t hS rfl hb1753 ?_
                            refine wp_skip ?_
                            try simp only [Exit.then, Exit.inBlock, ↓reduceIte, Nat.reduceEqDiff]
                            refine hK539 _ _ ?_
                            refine wp_block ?_
                            refine r_list ?_
                            refine wl rfl (ky (v := .pointer (some ⟨b933, o934, none⟩)) hS (y_move hS rfl) rfl rfl fun a hS => ?_)
                            refine wl rfl (ky (v := .pointer (some ⟨b933, o934, none⟩)) hS (y_move hS rfl) rfl rfl fun a hS => ?_)
                            refine wl rfl (ky (v := .pointer (some ⟨b933, o934, none⟩)) hS (y_nil hS rfl) rfl rfl fun a hS => ?_)
                            refine wl rfl (ky (v := .pointer (some ⟨b933, o934 + 1, none⟩)) hS (y_fld hS rfl fl48_1) rfl rfl fun a hS => ?_)
                            have hC1754 := hole_cells (R := R_RuleD) hS 2 rfl hO937 he931
                            refine wl rfl (ky (v := v1712) hS (y_loado (k := 1) hS ty46 0 rfl hO937 hC1754 rfl id (us := [v1712]) rfl rfl (fun _ => rfl)) rfl rfl fun a hS => ?_)
                            refine wl rfl (ky (v := .agg #[.bool true, .bool false, .int .i64 0, .int .i64 0]) hS (y_build (ps := [(0, .const (.bool true))]) hS pl55 ze55 rfl (us := [[.bool true]]) ⟨rfl, trivial⟩ (ws := [.bool true, .bool false, .int .i64 0, .int .i64 0]) rfl) rfl rfl fun a hS => ?_)
                            refine wl rfl (k_bslice (ps := [(0, .tmp 166)]) hS el46 ze55 (zl := [.bool false, .bool false, .int .i64 0, .int .i64 0]) (by kernel_rfl) rfl (us := [[.bool true, .bool false, .int .i64 0, .int .i64 0]]) ⟨rfl, trivial⟩ (ws := [.bool true, .bool false, .int .i64 0, .int .i64 0]) rfl rfl rfl rfl fun b1755 a w hk hS => ?_)
                            replace hS := hS.lit (R := R_AskD) (us := [.bool true, .bool false, .int .i64 0, .int .i64 0]) (xs := [(AskD.mk true false 0 0)]) 0 rfl (by decide) (RowsOk.one_ (R := R_AskD) (x := (AskD.mk true false 0 0)) rfl) rfl rfl
                            replace hS := hS.freeze (R := R_AskD) 0 rfl 0 rfl
                            obtain ⟨hg1757, hM⟩ := gd_some hM
                            refine wl rfl (k_apps (R := R_AskD) (xs := l1711) (ys := [(AskD.mk true false 0 0)]) hS el46 (by decide) (by decide) rfl rfl 1 rfl 3 rfl 0 rfl hg1757 rfl fun v1758 cl1759 a w hk hS => ?_)
                            refine wl rfl (ky (v := .pointer (some ⟨b933, o934, none⟩)) hS (y_nil hS rfl) rfl rfl fun a hS => ?_)
                            refine wl rfl (ky (v := .pointer (some ⟨b933, o934 + 1, none⟩)) hS (y_fld hS rfl fl48_1) rfl rfl fun a hS => ?_)
                            refine wl rfl (k_storeh (R := R_RuleD) (k := 1) (cs := [.bool e931.Ring, v1712, .int .i64 e931.Final, .int .i64 e931.C]) (us := [v1758]) hS rfl rfl (cells1 (own_one (hS.own _ (List.mem_of_getElem? (i := 1) rfl)).1)) ty46 0 rfl 5 rfl hO937 he931 rfl rfl (oc rfl (oc (own_one (hS.own _ (List.mem_of_getElem? (i := 1) rfl)).1) (oc rfl (oc rfl on)))) fun cl1761 w hk hS => ?_)
                            replace hS := (show St W0 No T 246 _ [.own vz924_3 48 R_RuleD.size cl1761, .own v1758 55 R_AskD.size cl1759] (RowsF (HR R_RuleD) cl1761 (holeL u923.1 u929 [.bool e931.Ring, v1758, .int .i64 e931.Final, .int .i64 e931.C]) :: _) _ _ from hS)
                            refine wpList_nil ?_
                            try simp only [Exit.then, Exit.inBlock, ↓reduceIte, Nat.reduceEqDiff]
                            exact ⟨(l1711 ++ ([(AskD.mk true false 0 0)])), (Option.some.inj hM).symm, (l1711 ++ ([(AskD.mk true false 0 0)])), cl1761, v1758, cl1759, rfl, (hS.meet [0, 1] (by decide) ⟨rfl, rfl, rfl, rfl, trivial⟩ ⟨rfl, rfl, trivial⟩ ⟨⟨4, rfl⟩, ⟨1, rfl⟩, ⟨0, rfl⟩, ⟨7, rfl⟩, trivial⟩)⟩
                          · replace hM := cf hb1753 hM
                            refine c_f hS rfl hb1753 ?_
                            refine wp_exit ?_
                            replace hS := hS.freeze (R := R_AskD) 1 rfl 1 rfl
                            replace hS := hS.closeH (R := R_RuleD) (x' := (RuleD.mk e931.Ring l1711 e931.Final e931.C)) 3 rfl (⟨_, rfl, (hS.get 0 rfl)⟩)
                            try simp only [Exit.then, Exit.inBlock, ↓reduceIte, Nat.reduceEqDiff]
                            injection hM with hM
                            subst hM
                            have hr := hf1 _ rfl
                            subst hr
                            have hM : law24_ToyRules_j5 raw_ (u923.1.set (Int.toNat u929) (RuleD.mk e931.Ring l1711 e931.Final e931.C)) = some y := hMo1
                            exact ⟨(u923.1.set (Int.toNat u929) (RuleD.mk e931.Ring l1711 e931.Final e931.C)), vz924_3, cl1710, (hS.meet [0] (by decide) ⟨rfl, rfl, trivial⟩ ⟨rfl, trivial⟩ ⟨⟨2, rfl⟩, ⟨0, rfl⟩, ⟨5, rfl⟩, trivial⟩), hM⟩
                        · replace hM := cf hb1682 hM
                          refine c_f hS rfl hb1682 ?_
                          refine wp_seq_k fun K541 hK541 => ?_
                          refine r_list ?_
                          refine wl rfl (ky (v := .bool ((u1570 : Int) == 7)) hS (y_int hS rfl rfl rfl) rfl rfl fun a hS => ?_)
                          refine wl rfl (ky (v := .bool ((u1570 : Int) == 7)) hS (y_assign hS rfl) rfl rfl fun a hS => ?_)
                          refine wpList_nil ?_
                          try simp only [Exit.then, Exit.inBlock, ↓reduceIte, Nat.reduceEqDiff]
                          refine hK541 _ _ ?_
                          rcases bool2 ((u1570 : Int) == 7) with hb1762 | hb1762
                          · replace hM := ct hb1762 hM
                            refine c_t hS rfl hb1762 ?_
                            refine wp_block ?_
                            replace hS := hS.freeze (R := R_AskD) 0 rfl 1 rfl
                            replace hS := hS.closeH (R := R_RuleD) (x' := (RuleD.mk e931.Ring (([] : List AskD) ++ e931.Asks) e931.Final e931.C)) 1 rfl (⟨_, rfl, (hS.get 0 rfl)⟩)
                            obtain ⟨r1, hl1, hMo1⟩ := bd hM
                            refine wp_lp (fun s : (List RuleD) => law24_ToyRules_l7 by_4 s) (fun s a w => ∃ (l1776 : (List RuleD)) (v1777 : Value) (cl1778 : (List Value)), l1776 = s ∧ St W0 No T 246 [(0, v1), (4, .int .i64 by_4), (13, v1777)] [.own v1777 48 R_RuleD.size cl1778] [SlF R_RuleD v1 raw_, RowsF R_RuleD cl1778 l1776, LvF] a w) hl1 ⟨(u923.1.set (Int.toNat u929) (RuleD.mk e931.Ring (([] : List AskD) ++ e931.Asks) e931.Final e931.C)), vz924_3, cl945, rfl, (hS.meet [0] (by decide) ⟨rfl, rfl, rfl, trivial⟩ ⟨rfl, trivial⟩ ⟨⟨9, rfl⟩, ⟨0, rfl⟩, ⟨11, rfl⟩, trivial⟩)⟩ ?_
                            rintro s a w f1 ⟨l1776, v1777, cl1778, rfl, hS⟩ hM hf1
                            have hM : law24_ToyRules_l7 by_4 l1776 = some f1 := hM
                            unfold law24_ToyRules_l7 at hM
                            refine wp_seq_k fun K546 hK546 => ?_
                            refine wp_seq_k fun K547 hK547 => ?_
                            refine r_list ?_
                            refine wl rfl (ky (v := v1777) hS (y_move hS rfl) rfl rfl fun a hS => ?_)
                            refine wl rfl (ky (v := .int .i64 (l1776.length : Int)) hS (y_leno (R := R_RuleD) (xs := l1776) hS sl44 rfl 0 rfl 1 rfl) rfl rfl fun a hS => ?_)
                            refine wl rfl (ky (v := .int .i64 by_4) hS (y_move hS rfl) rfl rfl fun a hS => ?_)
                            obtain ⟨u1793, hu1793, hM⟩ := bd hM
                            refine wl rfl (k_call hS ci13 rfl rfl (mill_Mod_c _ _ hS.dlt by_4 2 _ hu1793) fun _ w hR a hk hA => ?_)
                            have he := Eq.symm hR
                            subst he
                            have hS := hA [] (fun r hr => by cases hr) List.Pairwise.nil
                            refine wl rfl (ky (v := .int .i64 (IntKind.i64.wrap (24 + u1793))) hS (y_int hS rfl rfl rfl) rfl rfl fun a hS => ?_)
                            refine wl rfl (ky (v := .bool (decide (((l1776.length : Int) : Int) < (IntKind.i64.wrap (24 + u1793))))) hS (y_int hS rfl rfl rfl) rfl rfl fun a hS => ?_)
                            refine wpList_nil ?_
                            try simp only [Exit.then, Exit.inBlock, ↓reduceIte, Nat.reduceEqDiff]
                            refine hK547 _ _ ?_
                            rcases bool2 (decide (((l1776.length : Int) : Int) < (IntKind.i64.wrap (24 + u1793)))) with hb1795 | hb1795
                            · replace hM := ct hb1795 hM
                              refine c_t hS rfl hb1795 ?_
                              refine wp_skip ?_
                              try simp only [Exit.then, Exit.inBlock, ↓reduceIte, Nat.reduceEqDiff]
                              refine hK546 _ _ ?_
                              refine wp_block ?_
                              refine r_list ?_
                              refine wl rfl (ky (v := v1777) hS (y_move hS rfl) rfl rfl fun a hS => ?_)
                              refine wl rfl (ky (v := .agg #[.bool false, .slice none 0 0, .int .i64 1, .int .i64 0]) hS (y_build (ps := [(2, .const (.int .i64 1))]) hS pl48 ze48 rfl (us := [[.int .i64 1]]) ⟨rfl, trivial⟩ (ws := [.bool false, .slice none 0 0, .int .i64 1, .int .i64 0]) rfl) rfl rfl fun a hS => ?_)
                              refine wl rfl (k_bslice (ps := [(0, .tmp 180)]) hS el44 ze48 (zl := [.bool false, .slice none 0 0, .int .i64 0, .int .i64 0]) (by kernel_rfl) rfl (us := [[.bool false, .slice none 0 0, .int .i64 1, .int .i64 0]]) ⟨rfl, trivial⟩ (ws := [.bool false, .slice none 0 0, .int .i64 1, .int .i64 0]) rfl rfl rfl rfl fun b1796 a w hk hS => ?_)
                              replace hS := hS.lit (R := R_RuleD) (us := [.bool false, .slice none 0 0, .int .i64 1, .int .i64 0]) (xs := [(RuleD.mk false ([]) 1 0)]) 0 rfl (by decide) (RowsOk.one_ (R := R_RuleD) (x := (RuleD.mk false ([]) 1 0)) (⟨_, rfl, SlR.nil_ _ _ _⟩)) rfl rfl
                              replace hS := hS.freeze (R := R_RuleD) 0 rfl 0 rfl
                              obtain ⟨hg1798, hM⟩ := gd_some hM
                              refine wl rfl (k_apps (R := R_RuleD) (xs := l1776) (ys := [(RuleD.mk false ([]) 1 0)]) hS el44 (by decide) (by decide) rfl rfl 0 rfl 3 rfl 0 rfl hg1798 rfl fun v1799 cl1800 a w hk hS => ?_)
                              refine wl rfl (ky (v := v1799) hS (y_assign hS rfl) rfl rfl fun a hS => ?_)
                              refine wpList_nil ?_
                              try simp only [Exit.then, Exit.inBlock, ↓reduceIte, Nat.reduceEqDiff]
                              exact ⟨(l1776 ++ ([(RuleD.mk false ([]) 1 0)])), (Option.some.inj hM).symm, (l1776 ++ ([(RuleD.mk false ([]) 1 0)])), v1799, cl1800, rfl, (hS.meet [0] (by decide) ⟨rfl, rfl, rfl, trivial⟩ ⟨rfl, trivial⟩ ⟨⟨3, rfl⟩, ⟨0, rfl⟩, ⟨5, rfl⟩, trivial⟩)⟩
                            · replace hM := cf hb1795 hM
                              refine c_f hS rfl hb1795 ?_
                              refine wp_exit ?_
                              try simp only [Exit.then, Exit.inBlock, ↓reduceIte, Nat.reduceEqDiff]
                              injection hM with hM
                              subst hM
                              have hr := hf1 _ rfl
                              subst hr
                              have hM : law24_ToyRules_j5 raw_ l1776 = some y := hMo1
                              exact ⟨l1776, v1777, cl1778, (hS.meet [0] (by decide) ⟨rfl, rfl, trivial⟩ ⟨rfl, trivial⟩ ⟨⟨0, rfl⟩, ⟨1, rfl⟩, ⟨2, rfl⟩, trivial⟩), hM⟩
                          · replace hM := cf hb1762 hM
                            refine c_f hS rfl hb1762 ?_
                            refine wp_seq_k fun K548 hK548 => ?_
                            refine r_list ?_
                            refine wl rfl (ky (v := .bool ((u1570 : Int) == 8)) hS (y_int hS rfl rfl rfl) rfl rfl fun a hS => ?_)
                            refine wl rfl (ky (v := .bool ((u1570 : Int) == 8)) hS (y_assign hS rfl) rfl rfl fun a hS => ?_)
                            refine wpList_nil ?_
                            try simp only [Exit.then, Exit.inBlock, ↓reduceIte, Nat.reduceEqDiff]
                            refine hK548 _ _ ?_
                            rcases bool2 ((u1570 : Int) == 8) with hb1802 | hb1802
                            · replace hM := ct hb1802 hM
                              refine c_t hS rfl hb1802 ?_
                              refine wp_seq_k fun K549 hK549 => ?_
                              refine r_list ?_
                              refine wl rfl (ky (v := .pointer (some ⟨b933, o934, none⟩)) hS (y_move hS rfl) rfl rfl fun a hS => ?_)
                              refine wl rfl (ky (v := .pointer (some ⟨b933, o934, none⟩)) hS (y_nil hS rfl) rfl rfl fun a hS => ?_)
                              refine wl rfl (ky (v := .pointer (some ⟨b933, o934 + 1, none⟩)) hS (y_fld hS rfl fl48_1) rfl rfl fun a hS => ?_)
                              have hC1803 := hole_cells (R := R_RuleD) hS 0 rfl hO937 he931
                              refine wl rfl (ky (v := v942) hS (y_loado (k := 1) hS ty46 1 rfl hO937 hC1803 rfl id (us := [v942]) rfl rfl (fun _ => rfl)) rfl rfl fun a hS => ?_)
                              refine wl rfl (ky (v := .int .i64 ((([] : List AskD) ++ e931.Asks).length : Int)) hS (y_leno (R := R_AskD) (xs := (([] : List AskD) ++ e931.Asks)) hS sl46 rfl 0 rfl 1 rfl) rfl rfl fun a hS => ?_)
                              refine wl rfl (ky (v := .bool (decide ((0 : Int) < ((([] : List AskD) ++ e931.Asks).length : Int)))) hS (y_int hS rfl rfl rfl) rfl rfl fun a hS => ?_)
                              refine wpList_nil ?_
                              try simp only [Exit.then, Exit.inBlock, ↓reduceIte, Nat.reduceEqDiff]
                              refine hK549 _ _ ?_
                              rcases bool2 (decide ((0 : Int) < ((([] : List AskD) ++ e931.Asks).length : Int))) with hb1804 | hb1804
                              · replace hM := ct hb1804 hM
                                refine c_t hS rfl hb1804 ?_
                                refine draws [(14, .blk (Value.ownBlock v942))] hS mixed rfl (fun c a d v w h => by cases d <;> exact h) fun w hQ hS => ?_
                                refine dy 0 (v := .pointer (some ⟨b933, o934, none⟩)) rfl (by kernel_rfl) (by kernel_rfl) (by kernel_rfl) rfl hQ hS (y_move hS rfl) rfl rfl rfl fun a hS => ?_
                                refine dy 1 (v := .pointer (some ⟨b933, o934, none⟩)) rfl (by kernel_rfl) (by kernel_rfl) (by kernel_rfl) rfl hQ hS (y_nil hS rfl) rfl rfl rfl fun a hS => ?_
                                refine dy 2 (v := .pointer (some ⟨b933, o934 + 1, none⟩)) rfl (by kernel_rfl) (by kernel_rfl) (by kernel_rfl) rfl hQ hS (y_fld hS rfl fl48_1) rfl rfl rfl fun a hS => ?_
                                have hC1819 := hole_cells (R := R_RuleD) hS 0 rfl hO937 he931
                                refine dy (l := []) 3 (v := v942) rfl (by kernel_rfl) (by kernel_rfl) (by kernel_rfl) (by kernel_rfl) hQ hS (y_loado (k := 1) hS ty46 1 rfl hO937 hC1819 rfl eo_nil (us := [v942]) rfl rfl (fun _ => rfl)) rfl rfl rfl fun a hS => ?_
                                refine dy 4 (v := .pointer (some ⟨b933, o934, none⟩)) rfl (by kernel_rfl) (by kernel_rfl) (by kernel_rfl) rfl hQ hS (y_move hS rfl) rfl rfl rfl fun a hS => ?_
                                refine dy 5 (v := .pointer (some ⟨b933, o934, none⟩)) rfl (by kernel_rfl) (by kernel_rfl) (by kernel_rfl) rfl hQ hS (y_nil hS rfl) rfl rfl rfl fun a hS => ?_
                                refine dy 6 (v := .pointer (some ⟨b933, o934 + 1, none⟩)) rfl (by kernel_rfl) (by kernel_rfl) (by kernel_rfl) rfl hQ hS (y_fld hS rfl fl48_1) rfl rfl rfl fun a hS => ?_
                                have hC1820 := hole_cells (R := R_RuleD) hS 0 rfl hO937 he931
                                refine dy (l := []) 7 (v := v942) rfl (by kernel_rfl) (by kernel_rfl) (by kernel_rfl) (by kernel_rfl) hQ hS (y_loado (k := 1) hS ty46 1 rfl hO937 hC1820 rfl eo_nil (us := [v942]) rfl rfl (fun _ => rfl)) rfl rfl rfl fun a hS => ?_
                                refine dy 8 (v := .int .i64 ((([] : List AskD) ++ e931.Asks).length : Int)) rfl (by kernel_rfl) (by kernel_rfl) (by kernel_rfl) rfl hQ hS (y_leno (R := R_AskD) (xs := (([] : List AskD) ++ e931.Asks)) hS sl46 rfl 0 rfl 1 rfl) rfl rfl rfl fun a hS => ?_
                                refine dy 9 (v := .int .i64 (IntKind.i64.wrap (((([] : List AskD) ++ e931.Asks).length : Int) - 1))) rfl (by kernel_rfl) (by kernel_rfl) (by kernel_rfl) rfl hQ hS (y_int hS rfl rfl rfl) rfl rfl rfl fun a hS => ?_
                                refine dy 10 (v := .int .i64 by_4) rfl (by kernel_rfl) (by kernel_rfl) (by kernel_rfl) rfl hQ hS (y_move hS rfl) rfl rfl rfl fun a hS => ?_
                                obtain ⟨u1821, hu1821, hM⟩ := bd hM
                                refine wpE_one (i := 11) rfl (by kernel_rfl) rfl (k_call hS ci13 rfl rfl (mill_Mod_c _ _ hS.dlt by_4 3 _ hu1821) fun _ w hR a hk hA => ⟨stN (hk), ?_⟩)
                                have he := Eq.symm hR
                                subst he
                                have hS := hA [] (fun r hr => by cases hr) List.Pairwise.nil
                                obtain ⟨e1823, he1823, hM⟩ := bd hM
                                obtain ⟨b1824, o1825, p1830, cs1827, hr1826, hO1828, hC1829, hy1831⟩ := d_indexo (R := R_AskD) hS sl46 ty55 0 rfl 1 rfl he1823
                                obtain rfl := hr1826
                                refine dy 12 (v := .pointer (some ⟨b1824, o1825, none⟩)) rfl (by kernel_rfl) (by kernel_rfl) (by kernel_rfl) rfl hQ hS (hy1831 rfl rfl) rfl rfl rfl fun a hS => ?_
                                refine dy 13 (v := .pointer (some ⟨b1824, o1825 + 3, none⟩)) rfl (by kernel_rfl) (by kernel_rfl) (by kernel_rfl) rfl hQ hS (y_fld hS rfl fl55_3) rfl rfl rfl fun a hS => ?_
                                refine wpE_one (i := 14) rfl (by kernel_rfl) rfl (k_storeo (R := R_AskD) (k := 3) (cs := [.bool e1823.Cell, .bool e1823.Pick, .int .i64 e1823.N, .int .i64 e1823.Else]) (us := [.int .i64 u1821]) (x' := (AskD.mk e1823.Cell e1823.Pick e1823.N u1821)) hS rfl rfl rfl ty3 0 rfl 1 rfl hO1828 hC1829 he1823 rfl rfl rfl rfl fun cl1832 w hk hS => ⟨stM rfl hk etOwn, ?_⟩)
                                refine wpE_done (by kernel_rfl) ?_ _
                                replace hS := hS.freeze (R := R_AskD) 0 rfl 0 rfl
                                replace hS := hS.closeH (R := R_RuleD) (x' := (RuleD.mk e931.Ring ((([] : List AskD) ++ e931.Asks).set (Int.toNat (IntKind.i64.wrap (((([] : List AskD) ++ e931.Asks).length : Int) - 1))) (AskD.mk e1823.Cell e1823.Pick e1823.N u1821)) e931.Final e931.C)) 2 rfl (⟨_, rfl, (hS.get 0 rfl)⟩)
                                try simp only [Exit.then, Exit.inBlock, ↓reduceIte, Nat.reduceEqDiff]
                                exact ⟨(u923.1.set (Int.toNat u929) (RuleD.mk e931.Ring ((([] : List AskD) ++ e931.Asks).set (Int.toNat (IntKind.i64.wrap (((([] : List AskD) ++ e931.Asks).length : Int) - 1))) (AskD.mk e1823.Cell e1823.Pick e1823.N u1821)) e931.Final e931.C)), vz924_3, cl945, (hS.meet [0] (by decide) ⟨rfl, rfl, trivial⟩ ⟨rfl, trivial⟩ ⟨⟨10, rfl⟩, ⟨0, rfl⟩, ⟨12, rfl⟩, trivial⟩), hM⟩
                              · replace hM := cf hb1804 hM
                                refine c_f hS rfl hb1804 ?_
                                refine wp_skip ?_
                                replace hS := hS.freeze (R := R_AskD) 0 rfl 1 rfl
                                replace hS := hS.closeH (R := R_RuleD) (x' := (RuleD.mk e931.Ring (([] : List AskD) ++ e931.Asks) e931.Final e931.C)) 1 rfl (⟨_, rfl, (hS.get 0 rfl)⟩)
                                try simp only [Exit.then, Exit.inBlock, ↓reduceIte, Nat.reduceEqDiff]
                                exact ⟨(u923.1.set (Int.toNat u929) (RuleD.mk e931.Ring (([] : List AskD) ++ e931.Asks) e931.Final e931.C)), vz924_3, cl945, (hS.meet [0] (by decide) ⟨rfl, rfl, trivial⟩ ⟨rfl, trivial⟩ ⟨⟨9, rfl⟩, ⟨0, rfl⟩, ⟨11, rfl⟩, trivial⟩), hM⟩
                            · replace hM := cf hb1802 hM
                              refine c_f hS rfl hb1802 ?_
                              refine wp_skip ?_
                              replace hS := hS.freeze (R := R_AskD) 0 rfl 1 rfl
                              replace hS := hS.closeH (R := R_RuleD) (x' := (RuleD.mk e931.Ring (([] : List AskD) ++ e931.Asks) e931.Final e931.C)) 1 rfl (⟨_, rfl, (hS.get 0 rfl)⟩)
                              try simp only [Exit.then, Exit.inBlock, ↓reduceIte, Nat.reduceEqDiff]
                              exact ⟨(u923.1.set (Int.toNat u929) (RuleD.mk e931.Ring (([] : List AskD) ++ e931.Asks) e931.Final e931.C)), vz924_3, cl945, (hS.meet [0] (by decide) ⟨rfl, rfl, trivial⟩ ⟨rfl, trivial⟩ ⟨⟨9, rfl⟩, ⟨0, rfl⟩, ⟨11, rfl⟩, trivial⟩), hM⟩
          · rintro a w ⟨l1179, v1180, cl1181, hS, hM⟩
            unfold law24_ToyRules_j5 at hM
            refine seq_j (J := fun a w => St W0 No T 246 [] [] [LvF] a w ∧ law24_ToyRules_j1 = some y) ?_ ?_
            · skip
              refine wp_seq_k fun K385 hK385 => ?_
              refine r_list ?_
              refine wl rfl (ky (v := v1180) hS (y_move hS rfl) rfl rfl fun a hS => ?_)
              refine wl rfl (ky (v := v1) hS (y_move hS rfl) rfl rfl fun a hS => ?_)
              refine wl rfl (k_bslice (ps := [(0, .tmp 205), (1, .tmp 206)]) hS el56 ze44 (zl := [.slice none 0 0, .slice none 0 0]) (by kernel_rfl) rfl (us := [[v1180], [v1]]) ⟨(cells1 (own_one (hS.own _ (List.mem_of_getElem? (i := 0) rfl)).1)), ⟨(cells1 (SlR.one ((hS.get 0 rfl) : SlR R_RuleD _ _ _ _))), trivial⟩⟩ (ws := [v1180, v1]) rfl rfl rfl rfl fun b1340 a w hk hS => ?_)
              replace hS := hS.freeze (R := R_RuleD) 1 rfl 1 rfl
              replace hS := hS.lit (R := (Rep.slice R_RuleD)) (us := [v1180, v1]) (xs := [l1179, raw_]) 0 rfl (by decide) ((RowsOk.one_ (R := (Rep.slice R_RuleD)) (x := l1179) (⟨_, rfl, (hS.get 0 rfl)⟩)).append (RowsOk.one_ (R := (Rep.slice R_RuleD)) (x := raw_) (⟨_, rfl, (hS.get 1 rfl)⟩))) rfl rfl
              refine wl rfl (ky (v := .int .i64 (([l1179, raw_]).length : Int)) hS (y_leno (R := (Rep.slice R_RuleD)) (xs := [l1179, raw_]) hS sl56 rfl 0 rfl 0 rfl) rfl rfl fun a hS => ?_)
              refine wl rfl (ky (v := .int .i64 0) hS (y_move hS rfl) rfl rfl fun a hS => ?_)
              refine wpList_nil ?_
              try simp only [Exit.then, Exit.inBlock, ↓reduceIte, Nat.reduceEqDiff]
              refine hK385 _ _ ?_
              refine wp_block ?_
              obtain ⟨r1, hl1, hMo1⟩ := bd hM
              refine wp_lp (fun s : (List (List RuleD)) × Int => law24_ToyRules_l4 raw_ l1179 s.1 s.2) (fun s a w => ∃ (g1418 : (List (List RuleD))) (g1422 : Int) (v1419 : Value) (cl1420 : (List Value)), (g1418, g1422) = s ∧ St W0 No T 246 [(207, v1419), (208, .int .i64 (([l1179, raw_]).length : Int)), (209, .int .i64 g1422)] [.own v1419 44 (Rep.slice R_RuleD).size cl1420] [RowsF (Rep.slice R_RuleD) cl1420 g1418, LvF] a w) hl1 ⟨([l1179, raw_]), 0, (.slice (some ⟨b1340, 0, none⟩) 2 2), ([v1180, v1]), rfl, (hS.meet [0] (by decide) ⟨rfl, rfl, rfl, trivial⟩ ⟨rfl, trivial⟩ ⟨⟨0, rfl⟩, ⟨4, rfl⟩, trivial⟩)⟩ ?_
              rintro s a w f1 ⟨g1418, g1422, v1419, cl1420, rfl, hS⟩ hM hf1
              have hM : law24_ToyRules_l4 raw_ l1179 g1418 g1422 = some f1 := hM
              unfold law24_ToyRules_l4 at hM
              refine wp_seq_k fun K474 hK474 => ?_
              refine r_list ?_
              refine wl rfl (ky (v := .bool (decide ((g1422 : Int) < (([l1179, raw_]).length : Int)))) hS (y_int hS rfl rfl rfl) rfl rfl fun a hS => ?_)
              refine wpList_nil ?_
              try simp only [Exit.then, Exit.inBlock, ↓reduceIte, Nat.reduceEqDiff]
              refine hK474 _ _ ?_
              refine wp_seq_k fun K475 hK475 => ?_
              rcases bool2 (decide ((g1422 : Int) < (([l1179, raw_]).length : Int))) with hb1495 | hb1495
              · replace hM := ct hb1495 hM
                refine c_t hS rfl hb1495 ?_
                refine wp_skip ?_
                try simp only [Exit.then, Exit.inBlock, ↓reduceIte, Nat.reduceEqDiff]
                refine hK475 _ _ ?_
                refine seq_j (J := fun a w => St W0 No T 246 [(207, v1419), (208, .int .i64 (([l1179, raw_]).length : Int)), (209, .int .i64 g1422)] [.own v1419 44 (Rep.slice R_RuleD).size cl1420] [RowsF (Rep.slice R_RuleD) cl1420 g1418, LvF] a w ∧ law24_ToyRules_j2 g1418 g1422 = some f1) ?_ ?_
                · skip
                  refine wp_block ?_
                  refine wp_seq_k fun K497 hK497 => ?_
                  refine r_list ?_
                  obtain ⟨e1529, he1529, hM⟩ := bd hM
                  refine wl rfl (k_indexo (R := (Rep.slice R_RuleD)) hS sl56 ty44 rfl rfl 0 rfl 0 rfl he1529 rfl fun b1531 o1532 p1537 cs1534 hr1533 hO1535 hC1536 a hS => ?_)
                  obtain ⟨v1530, rfl, hv1530⟩ := hr1533
                  replace hS := hS.fact (SlF R_RuleD v1530 e1529) hv1530
                  refine wl rfl (ky (v := v1530) hS (y_loado (k := 0) hS ty44 0 rfl hO1535 hC1536 rfl id (us := [v1530]) rfl rfl (fun _ => rfl)) rfl rfl fun a hS => ?_)
                  refine wl rfl (ky (v := v1530) hS (y_assign hS rfl) rfl rfl fun a hS => ?_)
                  refine wpList_nil ?_
                  try simp only [Exit.then, Exit.inBlock, ↓reduceIte, Nat.reduceEqDiff]
                  refine hK497 _ _ ?_
                  refine wp_seq_k fun K498 hK498 => ?_
                  refine wp_seq_k fun K499 hK499 => ?_
                  refine r_list ?_
                  refine wl rfl (ky (v := v1530) hS (y_move hS rfl) rfl rfl fun a hS => ?_)
                  obtain ⟨u1538, hu1538, hM⟩ := bd hM
                  refine wl rfl (k_call hS ci30 rfl rfl (toy_Valid_c _ _ hS.dlt e1529 _ (hS.get 0 rfl) _ hu1538) fun _ w hR a hk hA => ?_)
                  have he := Eq.symm hR
                  subst he
                  have hS := hA [] (fun r hr => by cases hr) List.Pairwise.nil
                  refine wl rfl (ky (v := v1530) hS (y_move hS rfl) rfl rfl fun a hS => ?_)
                  obtain ⟨u1540, hu1540, hM⟩ := bd hM
                  refine wl rfl (k_call hS ci31 rfl rfl (ref24_Valid_c _ _ hS.dlt e1529 _ (hS.get 0 rfl) _ hu1540) fun _ w hR a hk hA => ?_)
                  have he := Eq.symm hR
                  subst he
                  have hS := hA [] (fun r hr => by cases hr) List.Pairwise.nil
                  refine wl rfl (ky (v := .bool (u1538 != u1540)) hS (y_bool hS rfl rfl Tryd.underlying4 (.inr ⟨rfl, rfl⟩)) rfl rfl fun a hS => ?_)
                  refine wpList_nil ?_
                  try simp only [Exit.then, Exit.inBlock, ↓reduceIte, Nat.reduceEqDiff]
                  refine hK499 _ _ ?_
                  rcases bool2 (u1538 != u1540) with hb1542 | hb1542
                  · replace hM := ct hb1542 hM
                    refine c_t hS rfl hb1542 ?_
                    refine wp_seq_k fun K500 hK500 => ?_
                    refine r_list ?_
                    refine wl rfl (ky (v := .bool false) hS (y_assign hS rfl) rfl rfl fun a hS => ?_)
                    refine wpList_nil ?_
                    try simp only [Exit.then, Exit.inBlock, ↓reduceIte, Nat.reduceEqDiff]
                    refine hK500 _ _ ?_
                    refine wp_ret ?_
                    injection hM with hM
                    subst hM
                    have hr := hf1 _ rfl
                    subst hr
                    replace hMo1 := el_out hMo1
                    have hM := hMo1
                    injection hM with hM
                    subst hM
                    try simp only [Exit.then, Exit.inBlock, ↓reduceIte, Nat.reduceEqDiff]
                    refine ret_ok hS Tryd.results5 (res_tmp hS rfl res_nil) ?_
                    exact rfl
                  · replace hM := cf hb1542 hM
                    refine c_f hS rfl hb1542 ?_
                    refine wp_skip ?_
                    try simp only [Exit.then, Exit.inBlock, ↓reduceIte, Nat.reduceEqDiff]
                    refine hK498 _ _ ?_
                    refine wp_seq_k fun K501 hK501 => ?_
                    refine r_list ?_
                    refine wl rfl (ky (v := .int .i64 (-1)) hS (y_assign hS rfl) rfl rfl fun a hS => ?_)
                    refine wpList_nil ?_
                    try simp only [Exit.then, Exit.inBlock, ↓reduceIte, Nat.reduceEqDiff]
                    refine hK501 _ _ ?_
                    refine wp_block ?_
                    obtain ⟨r2, hl2, hMo2⟩ := bd hM
                    refine wp_lp (fun s : Int => law24_ToyRules_l3 e1529 s) (fun s a w => ∃ (i1552 : Int), i1552 = s ∧ St W0 No T 246 [(16, v1530), (17, .int .i64 i1552), (207, v1419), (208, .int .i64 (([l1179, raw_]).length : Int)), (209, .int .i64 g1422)] [.own v1419 44 (Rep.slice R_RuleD).size cl1420] [SlF R_RuleD v1530 e1529, RowsF (Rep.slice R_RuleD) cl1420 g1418, LvF] a w) hl2 ⟨(-1), rfl, (hS.meet [0] (by decide) ⟨rfl, rfl, rfl, rfl, rfl, trivial⟩ ⟨rfl, trivial⟩ ⟨⟨0, rfl⟩, ⟨1, rfl⟩, ⟨2, rfl⟩, trivial⟩)⟩ ?_
                    rintro s a w f2 ⟨i1552, rfl, hS⟩ hM hf2
                    have hM : law24_ToyRules_l3 e1529 i1552 = some f2 := hM
                    unfold law24_ToyRules_l3 at hM
                    refine wp_seq_k fun K518 hK518 => ?_
                    refine wp_seq_k fun K519 hK519 => ?_
                    refine r_list ?_
                    refine wl rfl (ky (v := .int .i64 i1552) hS (y_move hS rfl) rfl rfl fun a hS => ?_)
                    refine wl rfl (ky (v := v1530) hS (y_move hS rfl) rfl rfl fun a hS => ?_)
                    refine wl rfl (ky (v := .int .i64 (e1529.length : Int)) hS (y_len (R := R_RuleD) (xs := e1529) hS sl44 rfl 0 rfl) rfl rfl fun a hS => ?_)
                    refine wl rfl (ky (v := .bool (decide ((i1552 : Int) ≤ (e1529.length : Int)))) hS (y_int hS rfl rfl rfl) rfl rfl fun a hS => ?_)
                    refine wpList_nil ?_
                    try simp only [Exit.then, Exit.inBlock, ↓reduceIte, Nat.reduceEqDiff]
                    refine hK519 _ _ ?_
                    rcases bool2 (decide ((i1552 : Int) ≤ (e1529.length : Int))) with hb1562 | hb1562
                    · replace hM := ct hb1562 hM
                      refine c_t hS rfl hb1562 ?_
                      refine wp_skip ?_
                      try simp only [Exit.then, Exit.inBlock, ↓reduceIte, Nat.reduceEqDiff]
                      refine hK518 _ _ ?_
                      refine wp_seq_k fun K520 hK520 => ?_
                      refine wp_block ?_
                      refine wp_seq_k fun K521 hK521 => ?_
                      refine r_list ?_
                      refine wl rfl (ky (v := v1530) hS (y_move hS rfl) rfl rfl fun a hS => ?_)
                      refine wl rfl (ky (v := .int .i64 i1552) hS (y_move hS rfl) rfl rfl fun a hS => ?_)
                      obtain ⟨u1563, hu1563, hM⟩ := bd hM
                      refine wl rfl (k_call hS ci32 rfl rfl (toy_Block_c _ _ hS.dlt e1529 i1552 _ (hS.get 0 rfl) _ hu1563) fun _ w hR a hk hA => ?_)
                      have he := Eq.symm hR
                      subst he
                      have hS := hA [] (fun r hr => by cases hr) List.Pairwise.nil
                      refine wl rfl (ky (v := .tuple #[.int .i64 u1563.1, .int .i64 u1563.2]) hS (y_move hS rfl) rfl rfl fun a hS => ?_)
                      refine wl rfl (ky (v := .int .i64 u1563.1) hS (y_ex hS rfl rfl) rfl rfl fun a hS => ?_)
                      refine wl rfl (ky (v := .int .i64 u1563.2) hS (y_ex hS rfl rfl) rfl rfl fun a hS => ?_)
                      refine wl rfl (ky (v := .int .i64 u1563.1) hS (y_assign hS rfl) rfl rfl fun a hS => ?_)
                      refine wl rfl (ky (v := .int .i64 u1563.2) hS (y_assign hS rfl) rfl rfl fun a hS => ?_)
                      refine wpList_nil ?_
                      try simp only [Exit.then, Exit.inBlock, ↓reduceIte, Nat.reduceEqDiff]
                      refine hK521 _ _ ?_
                      refine wp_seq_k fun K522 hK522 => ?_
                      refine r_list ?_
                      refine wl rfl (ky (v := v1530) hS (y_move hS rfl) rfl rfl fun a hS => ?_)
                      refine wl rfl (ky (v := .int .i64 i1552) hS (y_move hS rfl) rfl rfl fun a hS => ?_)
                      obtain ⟨u1565, hu1565, hM⟩ := bd hM
                      refine wl rfl (k_call hS ci33 rfl rfl (ref24_Block_c _ _ hS.dlt e1529 i1552 _ (hS.get 0 rfl) _ hu1565) fun _ w hR a hk hA => ?_)
                      have he := Eq.symm hR
                      subst he
                      have hS := hA [] (fun r hr => by cases hr) List.Pairwise.nil
                      refine wl rfl (ky (v := .tuple #[.int .i64 u1565.1, .int .i64 u1565.2]) hS (y_move hS rfl) rfl rfl fun a hS => ?_)
                      refine wl rfl (ky (v := .int .i64 u1565.1) hS (y_ex hS rfl rfl) rfl rfl fun a hS => ?_)
                      refine wl rfl (ky (v := .int .i64 u1565.2) hS (y_ex hS rfl rfl) rfl rfl fun a hS => ?_)
                      refine wl rfl (ky (v := .int .i64 u1565.1) hS (y_assign hS rfl) rfl rfl fun a hS => ?_)
                      refine wl rfl (ky (v := .int .i64 u1565.2) hS (y_assign hS rfl) rfl rfl fun a hS => ?_)
                      refine wpList_nil ?_
                      try simp only [Exit.then, Exit.inBlock, ↓reduceIte, Nat.reduceEqDiff]
                      refine hK522 _ _ ?_
                      refine wp_seq_k fun K523 hK523 => ?_
                      refine r_list ?_
                      refine wl rfl (ky (v := .int .i64 u1563.1) hS (y_move hS rfl) rfl rfl fun a hS => ?_)
                      refine wl rfl (ky (v := .int .i64 u1565.1) hS (y_move hS rfl) rfl rfl fun a hS => ?_)
                      refine wl rfl (ky (v := .bool ((u1563.1 : Int) != u1565.1)) hS (y_int hS rfl rfl rfl) rfl rfl fun a hS => ?_)
                      refine wl rfl (ky (v := .bool ((u1563.1 : Int) != u1565.1)) hS (y_move hS rfl) rfl rfl fun a hS => ?_)
                      rcases bool2 ((u1563.1 : Int) != u1565.1) with hb1568 | hb1568
                      · replace hM := ct hb1568 hM
                        refine wn hS rfl rfl rfl hb1568 rfl rfl fun a hS => ?_
                        refine wn hS rfl rfl rfl hb1568 rfl rfl fun a hS => ?_
                        refine wn hS rfl rfl rfl hb1568 rfl rfl fun a hS => ?_
                        refine wl rfl (ky (v := .bool true) hS (y_pickt hS rfl hb1568 rfl) rfl rfl fun a hS => ?_)
                        refine wpList_nil ?_
                        try simp only [Exit.then, Exit.inBlock, ↓reduceIte, Nat.reduceEqDiff]
                        refine hK523 _ _ ?_
                        refine c_t hS rfl rfl ?_
                        refine wp_seq_k fun K524 hK524 => ?_
                        refine r_list ?_
                        refine wl rfl (ky (v := .bool false) hS (y_assign hS rfl) rfl rfl fun a hS => ?_)
                        refine wpList_nil ?_
                        try simp only [Exit.then, Exit.inBlock, ↓reduceIte, Nat.reduceEqDiff]
                        refine hK524 _ _ ?_
                        refine wp_ret ?_
                        injection hM with hM
                        subst hM
                        have hr := hf2 _ rfl
                        subst hr
                        replace hMo2 := el_out hMo2
                        have hM := hMo2
                        injection hM with hM
                        subst hM
                        have hr := hf1 _ rfl
                        subst hr
                        replace hMo1 := el_out hMo1
                        have hM := hMo1
                        injection hM with hM
                        subst hM
                        try simp only [Exit.then, Exit.inBlock, ↓reduceIte, Nat.reduceEqDiff]
                        refine ret_ok hS Tryd.results5 (res_tmp hS rfl res_nil) ?_
                        exact rfl
                      · replace hM := cf hb1568 hM
                        refine wg hS rfl rfl rfl hb1568 (ky (v := .int .i64 u1563.2) hS (y_move hS rfl) rfl rfl fun a hS => ?_)
                        refine wg hS rfl rfl rfl hb1568 (ky (v := .int .i64 u1565.2) hS (y_move hS rfl) rfl rfl fun a hS => ?_)
                        refine wg hS rfl rfl rfl hb1568 (ky (v := .bool ((u1563.2 : Int) != u1565.2)) hS (y_int hS rfl rfl rfl) rfl rfl fun a hS => ?_)
                        refine wl rfl (ky (v := .bool ((u1563.2 : Int) != u1565.2)) hS (y_pickf hS rfl hb1568 rfl) rfl rfl fun a hS => ?_)
                        refine wpList_nil ?_
                        try simp only [Exit.then, Exit.inBlock, ↓reduceIte, Nat.reduceEqDiff]
                        refine hK523 _ _ ?_
                        rcases bool2 ((u1563.2 : Int) != u1565.2) with hb1569 | hb1569
                        · replace hM := ct hb1569 hM
                          refine c_t hS rfl hb1569 ?_
                          refine wp_seq_k fun K525 hK525 => ?_
                          refine r_list ?_
                          refine wl rfl (ky (v := .bool false) hS (y_assign hS rfl) rfl rfl fun a hS => ?_)
                          refine wpList_nil ?_
                          try simp only [Exit.then, Exit.inBlock, ↓reduceIte, Nat.reduceEqDiff]
                          refine hK525 _ _ ?_
                          refine wp_ret ?_
                          injection hM with hM
                          subst hM
                          have hr := hf2 _ rfl
                          subst hr
                          replace hMo2 := el_out hMo2
                          have hM := hMo2
                          injection hM with hM
                          subst hM
                          have hr := hf1 _ rfl
                          subst hr
                          replace hMo1 := el_out hMo1
                          have hM := hMo1
                          injection hM with hM
                          subst hM
                          try simp only [Exit.then, Exit.inBlock, ↓reduceIte, Nat.reduceEqDiff]
                          refine ret_ok hS Tryd.results5 (res_tmp hS rfl res_nil) ?_
                          exact rfl
                        · replace hM := cf hb1569 hM
                          refine c_f hS rfl hb1569 ?_
                          refine wp_skip ?_
                          try simp only [Exit.then, Exit.inBlock, ↓reduceIte, Nat.reduceEqDiff]
                          refine hK520 _ _ ?_
                          refine r_list ?_
                          refine wl rfl (ky (v := .int .i64 i1552) hS (y_move hS rfl) rfl rfl fun a hS => ?_)
                          refine wl rfl (ky (v := .int .i64 (IntKind.i64.wrap (i1552 + 1))) hS (y_int hS rfl rfl rfl) rfl rfl fun a hS => ?_)
                          refine wl rfl (ky (v := .int .i64 (IntKind.i64.wrap (i1552 + 1))) hS (y_assign hS rfl) rfl rfl fun a hS => ?_)
                          refine wpList_nil ?_
                          try simp only [Exit.then, Exit.inBlock, ↓reduceIte, Nat.reduceEqDiff]
                          exact ⟨IntKind.i64.wrap (i1552 + 1), (Option.some.inj hM).symm, (IntKind.i64.wrap (i1552 + 1)), rfl, (hS.meet [0] (by decide) ⟨rfl, rfl, rfl, rfl, rfl, trivial⟩ ⟨rfl, trivial⟩ ⟨⟨0, rfl⟩, ⟨1, rfl⟩, ⟨2, rfl⟩, trivial⟩)⟩
                    · replace hM := cf hb1562 hM
                      refine c_f hS rfl hb1562 ?_
                      refine wp_exit ?_
                      try simp only [Exit.then, Exit.inBlock, ↓reduceIte, Nat.reduceEqDiff]
                      injection hM with hM
                      subst hM
                      have hr := hf2 _ rfl
                      subst hr
                      replace hMo2 := el_go hMo2
                      have hM : law24_ToyRules_j2 g1418 g1422 = some f1 := hMo2
                      exact ⟨(hS.meet [0] (by decide) ⟨rfl, rfl, rfl, trivial⟩ ⟨rfl, trivial⟩ ⟨⟨1, rfl⟩, ⟨2, rfl⟩, trivial⟩), hM⟩
                · rintro a w ⟨hS, hM⟩
                  unfold law24_ToyRules_j2 at hM
                  refine r_list ?_
                  refine wl rfl (ky (v := .int .i64 (IntKind.i64.wrap (g1422 + 1))) hS (y_int hS rfl rfl rfl) rfl rfl fun a hS => ?_)
                  refine wl rfl (ky (v := .int .i64 (IntKind.i64.wrap (g1422 + 1))) hS (y_move hS rfl) rfl rfl fun a hS => ?_)
                  refine wpList_nil ?_
                  try simp only [Exit.then, Exit.inBlock, ↓reduceIte, Nat.reduceEqDiff]
                  exact ⟨(g1418, IntKind.i64.wrap (g1422 + 1)), (Option.some.inj hM).symm, g1418, (IntKind.i64.wrap (g1422 + 1)), v1419, cl1420, rfl, (hS.meet [0] (by decide) ⟨rfl, rfl, rfl, trivial⟩ ⟨rfl, trivial⟩ ⟨⟨0, rfl⟩, ⟨1, rfl⟩, trivial⟩)⟩
              · replace hM := cf hb1495 hM
                refine c_f hS rfl hb1495 ?_
                refine wp_exit ?_
                try simp only [Exit.then, Exit.inBlock, ↓reduceIte, Nat.reduceEqDiff]
                injection hM with hM
                subst hM
                have hr := hf1 _ rfl
                subst hr
                replace hMo1 := el_go hMo1
                have hM : law24_ToyRules_j1 = some y := hMo1
                exact ⟨(hS.meet [] (by decide) trivial trivial ⟨⟨1, rfl⟩, trivial⟩), hM⟩
            · rintro a w ⟨hS, hM⟩
              unfold law24_ToyRules_j1 at hM
              refine wp_seq_k fun K384 hK384 => ?_
              refine r_list ?_
              obtain ⟨u1338, hu1338, hM⟩ := bd hM
              refine wl rfl (k_call hS ci27 rfl rfl (law24_awake_c _ _ hS.dlt (hS.get 0 rfl) _ hu1338) fun _ w hR a hk hA => ?_)
              have he := Eq.symm hR
              subst he
              have hS := hA [] (fun r hr => by cases hr) List.Pairwise.nil
              refine wl rfl (ky (v := .bool u1338) hS (y_assign hS rfl) rfl rfl fun a hS => ?_)
              refine wpList_nil ?_
              try simp only [Exit.then, Exit.inBlock, ↓reduceIte, Nat.reduceEqDiff]
              refine hK384 _ _ ?_
              refine wp_ret ?_
              injection hM with hM
              subst hM
              try simp only [Exit.then, Exit.inBlock, ↓reduceIte, Nat.reduceEqDiff]
              refine ret_ok hS Tryd.results5 (res_tmp hS rfl res_nil) ?_
              exact rfl
end Go.Proofs.YthpeklnhkkadjaaDoor
