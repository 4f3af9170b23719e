/- What functions of the program compute; that they do. -/
import Derived.Test.YthpeklnhkkadjaaDoorMT
import Derived.Test.YthpeklnhkkadjaaDoorD1
import Derived.Test.YthpeklnhkkadjaaDoorE1
set_option linter.unusedVariables false
set_option linter.unusedSimpArgs false
namespace Go.Proofs.YthpeklnhkkadjaaDoor
open Go.RowKit
noncomputable def mill_Contents_j1 (l327 : (List ChangeD)) (d331 : (List Int)) (d333 : Int) : Option ((List ChangeD) × DiceD) := some ((l327, (DiceD.mk d331 d333)))
noncomputable def mill_Contents_j2 (g387 : Int) (l454 : (List ChangeD)) (d458 : (List Int)) (d460 : Int) : Option (Fl ((List ChangeD) × Int × (List Int) × Int) ((List ChangeD) × (List Int) × Int)) := some (.go (l454, IntKind.i64.wrap (g387 + 1), d458, d460))
noncomputable def mill_Contents_l3 (l383 : (List ChangeD)) (g387 : Int) (d388 : (List Int)) (d390 : Int) : Option (Fl ((List ChangeD) × Int × (List Int) × Int) ((List ChangeD) × (List Int) × Int)) := cond (decide ((g387 : Int) < 5)) ((dice_Next (DiceD.mk d388 d390) 2).bind fun u461 => cond ((u461.1 : Int) == 0) ((ref23_Cell g387).bind fun u464 => (dice_Word (DiceD.mk u461.2.L u461.2.At) ([(ByteArray.mk #[49]), (ByteArray.mk #[50]), (ByteArray.mk #[51]), (ByteArray.mk #[120])])).bind fun u468 => gd (roomB (l383.length + ([(ChangeD.mk u464 u468.1)]).length)) <| mill_Contents_j2 g387 (l383 ++ ([(ChangeD.mk u464 u468.1)])) u468.2.L u468.2.At) (mill_Contents_j2 g387 l383 u461.2.L u461.2.At)) (some (.out (l383, d388, d390)))
noncomputable def mill_Contents (d_0 : DiceD) : Option ((List ChangeD) × DiceD) := (loop (fun s : (List ChangeD) × Int × (List Int) × Int => mill_Contents_l3 s.1 s.2.1 s.2.2.1 s.2.2.2) (([] : List ChangeD), 0, d_0.L, d_0.At)).bind fun r => mill_Contents_j1 r.1 r.2.1 r.2.2
set_option maxRecDepth 100000 in
set_option maxHeartbeats 4000000 in
theorem mill_Contents_c (T : Nat → Prop) (W0 : World) (hT : ∀ k, T k → k < W0.heap.size) (d_0 : DiceD) (v2 : Value) (b1 : Nat) (hb1 : W0.heap[b1]? = some (.cells #[v2, .int .i64 d_0.At] 104 (0, 0))) (hTb1 : ¬ T b1) (hv2 : SlR (Rep.int .i64) (dT T [.box b1 [v2, .int .i64 d_0.At] 104]) W0 v2 d_0.L) (hLv : LvP (dT T [.box b1 [v2, .int .i64 d_0.At] 104]) W0) (y : (List ChangeD) × DiceD) (hM : mill_Contents d_0 = some y) : Rets Tryd.prog (fun k => k = b1) 46 [.pointer (some ⟨b1, 0, none⟩)] W0 (fun v w' => ∃ (v3 : Value) (cl4 : List Value) (v5 : Value), v = v3 ∧ OwnR R_ChangeD T W0 w' [.own v3 88 R_ChangeD.size cl4, .box b1 [v5, .int .i64 y.2.At] 104] 88 v3 cl4 y.1 ∧ w'.heap[b1]? = some (.cells #[v5, .int .i64 y.2.At] 104 (0, 0)) ∧ SlR (Rep.int .i64) (dT T [.own v3 88 R_ChangeD.size cl4, .box b1 [v5, .int .i64 y.2.At] 104]) w' v5 y.2.L) := by
  refine enterm (c := _) Tryd.func46 rfl T 22 Tryd.ntmps46 hT rfl hb1 hTb1 fun a hS => ?_
  replace hS := hS.fact LvF hLv
  replace hS := hS.fact (SlF (Rep.int .i64) v2 d_0.L) hv2
  unfold mill_Contents at hM
  refine wp_seq_k fun K30 hK30 => ?_
  refine r_list ?_
  refine wl rfl (ky (v := .slice none 0 0) hS (y_assign hS rfl) rfl rfl fun a hS => ?_)
  refine wpList_nil ?_
  try simp only [Exit.then, Exit.inBlock, ↓reduceIte, Nat.reduceEqDiff]
  refine hK30 _ _ ?_
  refine wp_seq_k fun K31 hK31 => ?_
  refine r_list ?_
  refine wl rfl (ky (v := .slice none 0 0) hS (y_assign hS rfl) rfl rfl fun a hS => ?_)
  refine wpList_nil ?_
  try simp only [Exit.then, Exit.inBlock, ↓reduceIte, Nat.reduceEqDiff]
  refine hK31 _ _ ?_
  refine seq_j (J := fun a w => ∃ (l327 : (List ChangeD)) (d331 : (List Int)) (d333 : Int) (v328 : Value) (cl329 : (List Value)) (v332 : Value), St W0 (fun k => k = b1) T 22 [(3, v328)] [.own v328 88 R_ChangeD.size cl329, .box b1 [v332, .int .i64 d333] 104] [RowsF R_ChangeD cl329 l327, SlF (Rep.int .i64) v332 d331, LvF] a w ∧ mill_Contents_j1 l327 d331 d333 = some y) ?_ ?_
  · skip
    refine wp_seq_k fun K46 hK46 => ?_
    refine r_list ?_
    refine wl rfl (ky (v := .int .i64 0) hS (y_move hS rfl) rfl rfl fun a hS => ?_)
    refine wpList_nil ?_
    try simp only [Exit.then, Exit.inBlock, ↓reduceIte, Nat.reduceEqDiff]
    refine hK46 _ _ ?_
    refine wp_block ?_
    replace hS := hS.nilRow R_ChangeD 88 (by decide)
    obtain ⟨r1, hl1, hMo1⟩ := bd hM
    refine wp_lp (fun s : (List ChangeD) × Int × (List Int) × Int => mill_Contents_l3 s.1 s.2.1 s.2.2.1 s.2.2.2) (fun s a w => ∃ (l383 : (List ChangeD)) (g387 : Int) (d388 : (List Int)) (d390 : Int) (v384 : Value) (cl385 : (List Value)) (v389 : Value), (l383, g387, d388, d390) = s ∧ St W0 (fun k => k = b1) T 22 [(0, .pointer (some ⟨b1, 0, none⟩)), (3, v384), (5, .int .i64 g387)] [.own v384 88 R_ChangeD.size cl385, .box b1 [v389, .int .i64 d390] 104] [RowsF R_ChangeD cl385 l383, SlF (Rep.int .i64) v389 d388, LvF] a w) hl1 ⟨([] : List ChangeD), 0, d_0.L, d_0.At, (.slice none 0 0), ([]), v2, rfl, (hS.meet [0, 1] (by decide) ⟨rfl, rfl, rfl, trivial⟩ ⟨rfl, rfl, trivial⟩ ⟨⟨0, rfl⟩, ⟨1, rfl⟩, ⟨2, rfl⟩, trivial⟩)⟩ ?_
    rintro s a w f1 ⟨l383, g387, d388, d390, v384, cl385, v389, rfl, hS⟩ hM hf1
    have hM : mill_Contents_l3 l383 g387 d388 d390 = some f1 := hM
    unfold mill_Contents_l3 at hM
    refine wp_seq_k fun K59 hK59 => ?_
    refine r_list ?_
    refine wl rfl (ky (v := .bool (decide ((g387 : Int) < 5))) hS (y_int hS rfl rfl rfl) rfl rfl fun a hS => ?_)
    refine wpList_nil ?_
    try simp only [Exit.then, Exit.inBlock, ↓reduceIte, Nat.reduceEqDiff]
    refine hK59 _ _ ?_
    refine wp_seq_k fun K60 hK60 => ?_
    rcases bool2 (decide ((g387 : Int) < 5)) with hb438 | hb438
    · replace hM := ct hb438 hM
      refine c_t hS rfl hb438 ?_
      refine wp_skip ?_
      try simp only [Exit.then, Exit.inBlock, ↓reduceIte, Nat.reduceEqDiff]
      refine hK60 _ _ ?_
      refine seq_j (J := fun a w => ∃ (l454 : (List ChangeD)) (d458 : (List Int)) (d460 : Int) (v455 : Value) (cl456 : (List Value)) (v459 : Value), St W0 (fun k => k = b1) T 22 [(0, .pointer (some ⟨b1, 0, none⟩)), (3, v455), (5, .int .i64 g387)] [.own v455 88 R_ChangeD.size cl456, .box b1 [v459, .int .i64 d460] 104] [RowsF R_ChangeD cl456 l454, SlF (Rep.int .i64) v459 d458, LvF] a w ∧ mill_Contents_j2 g387 l454 d458 d460 = some f1) ?_ ?_
      · skip
        refine wp_block ?_
        refine wp_seq_k fun K63 hK63 => ?_
        refine r_list ?_
        refine wl rfl (ky (v := .int .i64 g387) hS (y_move hS rfl) rfl rfl fun a hS => ?_)
        refine wl rfl (ky (v := .int .i64 g387) hS (y_assign hS rfl) rfl rfl fun a hS => ?_)
        refine wpList_nil ?_
        try simp only [Exit.then, Exit.inBlock, ↓reduceIte, Nat.reduceEqDiff]
        refine hK63 _ _ ?_
        refine wp_seq_k fun K64 hK64 => ?_
        refine r_list ?_
        refine wl rfl (ky (v := .pointer (some ⟨b1, 0, none⟩)) hS (y_move hS rfl) rfl rfl fun a hS => ?_)
        obtain ⟨u461, hu461, hM⟩ := bd hM
        refine wl rfl (k_callm hS ci63 rfl rfl 1 rfl (dice_Next_c _ _ (hS.drop 1).dlt (DiceD.mk d388 d390) 2 _ _ (hS.boxRow 1 rfl) (hS.notin 1 rfl) (SlR.lent (i := 1) rfl (hS.get 1 rfl)) _ hu461) fun _ w hR hk => ?_)
        obtain ⟨vz462_3, he, hrow, hRvz462_3⟩ := hR
        replace he := he.symm
        subst he
        refine ⟨[vz462_3, .int .i64 u461.2.At], hrow, fun a hS => ?_⟩
        replace hS := hS.fact (SlF (Rep.int .i64) vz462_3 u461.2.L) (SlR.back (i := 1) rfl hRvz462_3)
        refine wl rfl (ky (v := .bool ((u461.1 : Int) == 0)) hS (y_int hS rfl rfl rfl) rfl rfl fun a hS => ?_)
        refine wpList_nil ?_
        try simp only [Exit.then, Exit.inBlock, ↓reduceIte, Nat.reduceEqDiff]
        refine hK64 _ _ ?_
        rcases bool2 ((u461.1 : Int) == 0) with hb463 | hb463
        · replace hM := ct hb463 hM
          refine c_t hS rfl hb463 ?_
          refine r_list ?_
          refine wl rfl (ky (v := v384) hS (y_move hS rfl) rfl rfl fun a hS => ?_)
          refine wl rfl (ky (v := .int .i64 g387) hS (y_move hS rfl) rfl rfl fun a hS => ?_)
          obtain ⟨u464, hu464, hM⟩ := bd hM
          refine wl rfl (k_call hS ci14 rfl rfl (ref23_Cell_c _ _ hS.dlt (hS.get 3 rfl) g387 _ hu464) fun _ w hR a hk hA => ?_)
          have he := Eq.symm hR
          subst he
          have hS := hA [] (fun r hr => by cases hr) List.Pairwise.nil
          refine wl rfl (ky (v := .pointer (some ⟨b1, 0, none⟩)) hS (y_move hS rfl) rfl rfl fun a hS => ?_)
          refine wl rfl (k_bslice (ps := [(0, .const (.string ⟨#[49]⟩)), (1, .const (.string ⟨#[50]⟩)), (2, .const (.string ⟨#[51]⟩)), (3, .const (.string ⟨#[120]⟩))]) hS el100 ze9 (zl := [.string (ByteArray.mk #[]), .string (ByteArray.mk #[]), .string (ByteArray.mk #[]), .string (ByteArray.mk #[])]) (by kernel_rfl) rfl (us := [[.string (ByteArray.mk #[49])], [.string (ByteArray.mk #[50])], [.string (ByteArray.mk #[51])], [.string (ByteArray.mk #[120])]]) ⟨rfl, ⟨rfl, ⟨rfl, ⟨rfl, trivial⟩⟩⟩⟩ (ws := [.string (ByteArray.mk #[49]), .string (ByteArray.mk #[50]), .string (ByteArray.mk #[51]), .string (ByteArray.mk #[120])]) rfl rfl rfl rfl fun b466 a w hk hS => ?_)
          replace hS := hS.lit (R := Rep.str) (us := [.string (ByteArray.mk #[49]), .string (ByteArray.mk #[50]), .string (ByteArray.mk #[51]), .string (ByteArray.mk #[120])]) (xs := [(ByteArray.mk #[49]), (ByteArray.mk #[50]), (ByteArray.mk #[51]), (ByteArray.mk #[120])]) 0 rfl (by decide) ((RowsOk.one_ (R := Rep.str) (x := (ByteArray.mk #[49])) rfl).append ((RowsOk.one_ (R := Rep.str) (x := (ByteArray.mk #[50])) rfl).append ((RowsOk.one_ (R := Rep.str) (x := (ByteArray.mk #[51])) rfl).append (RowsOk.one_ (R := Rep.str) (x := (ByteArray.mk #[120])) rfl)))) rfl rfl
          replace hS := hS.freeze (R := Rep.str) 0 rfl 0 rfl
          obtain ⟨u468, hu468, hM⟩ := bd hM
          refine wl rfl (k_callm hS ci66 rfl rfl 1 rfl (dice_Word_c _ _ (hS.drop 1).dlt (DiceD.mk u461.2.L u461.2.At) ([(ByteArray.mk #[49]), (ByteArray.mk #[50]), (ByteArray.mk #[51]), (ByteArray.mk #[120])]) _ _ _ (hS.boxRow 1 rfl) (hS.notin 1 rfl) (SlR.lent (i := 1) rfl (hS.get 2 rfl)) (SlR.lent (i := 1) rfl (hS.get 0 rfl)) _ hu468) fun _ w hR hk => ?_)
          obtain ⟨vz469_4, he, hrow, hRvz469_4⟩ := hR
          replace he := he.symm
          subst he
          refine ⟨[vz469_4, .int .i64 u468.2.At], hrow, fun a hS => ?_⟩
          replace hS := hS.fact (SlF (Rep.int .i64) vz469_4 u468.2.L) (SlR.back (i := 1) rfl hRvz469_4)
          refine wl rfl (ky (v := .agg #[.int .i64 u464.Kind, .string u464.Text, .string u468.1]) hS (y_build (ps := [(0, .tmp 13), (1, .tmp 16)]) hS pl88 ze88 rfl (us := [[.int .i64 u464.Kind, .string u464.Text], [.string u468.1]]) ⟨rfl, ⟨rfl, trivial⟩⟩ (ws := [.int .i64 u464.Kind, .string u464.Text, .string u468.1]) rfl) rfl rfl fun a hS => ?_)
          refine wl rfl (k_bslice (ps := [(0, .tmp 17)]) hS el79 ze88 (zl := [.int .i64 0, .string (ByteArray.mk #[]), .string (ByteArray.mk #[])]) (by kernel_rfl) rfl (us := [[.int .i64 u464.Kind, .string u464.Text, .string u468.1]]) ⟨rfl, trivial⟩ (ws := [.int .i64 u464.Kind, .string u464.Text, .string u468.1]) rfl rfl rfl rfl fun b470 a w hk hS => ?_)
          replace hS := hS.lit (R := R_ChangeD) (us := [.int .i64 u464.Kind, .string u464.Text, .string u468.1]) (xs := [(ChangeD.mk u464 u468.1)]) 0 rfl (by decide) (RowsOk.one_ (R := R_ChangeD) (x := (ChangeD.mk u464 u468.1)) rfl) rfl rfl
          replace hS := hS.freeze (R := R_ChangeD) 0 rfl 0 rfl
          obtain ⟨hg472, hM⟩ := gd_some hM
          refine wl rfl (k_apps (R := R_ChangeD) (xs := l383) (ys := [(ChangeD.mk u464 u468.1)]) hS el79 (by decide) (by decide) rfl rfl 0 rfl 6 rfl 0 rfl hg472 rfl fun v473 cl474 a w hk hS => ?_)
          refine wl rfl (ky (v := v473) hS (y_assign hS rfl) rfl rfl fun a hS => ?_)
          refine wpList_nil ?_
          try simp only [Exit.then, Exit.inBlock, ↓reduceIte, Nat.reduceEqDiff]
          exact ⟨(l383 ++ ([(ChangeD.mk u464 u468.1)])), u468.2.L, u468.2.At, v473, cl474, vz469_4, (hS.meet [0, 1] (by decide) ⟨rfl, rfl, rfl, trivial⟩ ⟨rfl, rfl, trivial⟩ ⟨⟨0, rfl⟩, ⟨3, rfl⟩, ⟨9, rfl⟩, trivial⟩), hM⟩
        · replace hM := cf hb463 hM
          refine c_f hS rfl hb463 ?_
          refine wp_skip ?_
          try simp only [Exit.then, Exit.inBlock, ↓reduceIte, Nat.reduceEqDiff]
          exact ⟨l383, u461.2.L, u461.2.At, v384, cl385, vz462_3, (hS.meet [0, 1] (by decide) ⟨rfl, rfl, rfl, trivial⟩ ⟨rfl, rfl, trivial⟩ ⟨⟨1, rfl⟩, ⟨0, rfl⟩, ⟨3, rfl⟩, trivial⟩), hM⟩
      · rintro a w ⟨l454, d458, d460, v455, cl456, v459, hS, hM⟩
        unfold mill_Contents_j2 at hM
        refine r_list ?_
        refine wl rfl (ky (v := .int .i64 (IntKind.i64.wrap (g387 + 1))) hS (y_int hS rfl rfl rfl) rfl rfl fun a hS => ?_)
        refine wl rfl (ky (v := .int .i64 (IntKind.i64.wrap (g387 + 1))) hS (y_move hS rfl) rfl rfl fun a hS => ?_)
        refine wpList_nil ?_
        try simp only [Exit.then, Exit.inBlock, ↓reduceIte, Nat.reduceEqDiff]
        exact ⟨(l454, IntKind.i64.wrap (g387 + 1), d458, d460), (Option.some.inj hM).symm, l454, (IntKind.i64.wrap (g387 + 1)), d458, d460, v455, cl456, v459, rfl, (hS.meet [0, 1] (by decide) ⟨rfl, rfl, rfl, trivial⟩ ⟨rfl, rfl, trivial⟩ ⟨⟨0, rfl⟩, ⟨1, rfl⟩, ⟨2, rfl⟩, trivial⟩)⟩
    · replace hM := cf hb438 hM
      refine c_f hS rfl hb438 ?_
      refine wp_exit ?_
      try simp only [Exit.then, Exit.inBlock, ↓reduceIte, Nat.reduceEqDiff]
      injection hM with hM
      subst hM
      have hr := hf1 _ rfl
      subst hr
      have hM : mill_Contents_j1 l383 d388 d390 = some y := hMo1
      exact ⟨l383, d388, d390, v384, cl385, v389, (hS.meet [0, 1] (by decide) ⟨rfl, trivial⟩ ⟨rfl, rfl, trivial⟩ ⟨⟨0, rfl⟩, ⟨1, rfl⟩, ⟨2, rfl⟩, trivial⟩), hM⟩
  · rintro a w ⟨l327, d331, d333, v328, cl329, v332, hS, hM⟩
    unfold mill_Contents_j1 at hM
    refine wp_seq_k fun K45 hK45 => ?_
    refine r_list ?_
    refine wl rfl (ky (v := v328) hS (y_move hS rfl) rfl rfl fun a hS => ?_)
    refine wl rfl (ky (v := v328) hS (y_assign hS rfl) rfl rfl fun a hS => ?_)
    refine wpList_nil ?_
    try simp only [Exit.then, Exit.inBlock, ↓reduceIte, Nat.reduceEqDiff]
    refine hK45 _ _ ?_
    refine wp_ret ?_
    injection hM with hM
    subst hM
    try simp only [Exit.then, Exit.inBlock, ↓reduceIte, Nat.reduceEqDiff]
    refine ret_ok hS Tryd.results46 (res_tmp hS rfl res_nil) ?_
    exact ⟨v328, cl329, v332, rfl, hS.retOwnm ⟨.inr (List.mem_of_getElem? (i := 0) rfl), ⟨.inr (List.mem_of_getElem? (i := 1) rfl), trivial⟩⟩ 0 rfl 0 rfl 1 rfl (by decide), hS.boxRow 1 rfl, (SlR.up ⟨.inr (List.mem_of_getElem? (i := 0) rfl), ⟨.inr (List.mem_of_getElem? (i := 1) rfl), trivial⟩⟩ (hS.get 1 rfl))⟩

noncomputable def ref23_Cmp (a_0 : KeyD) (b_1 : KeyD) : Option Int := cond (decide ((a_0.Kind : Int) < b_1.Kind)) (some ((-1))) (cond (decide ((b_1.Kind : Int) < a_0.Kind)) (some (1)) ((compareSM a_0.Text b_1.Text).bind fun u19 => some (u19)))
set_option maxRecDepth 100000 in
set_option maxHeartbeats 4000000 in
theorem ref23_Cmp_c (T : Nat → Prop) (W0 : World) (hT : ∀ k, T k → k < W0.heap.size) (hLv : LvP T W0) (a_0 : KeyD) (b_1 : KeyD) (y : Int) (hM : ref23_Cmp a_0 b_1 = some y) : Rets Tryd.prog No 50 [.agg #[.int .i64 a_0.Kind, .string a_0.Text], .agg #[.int .i64 b_1.Kind, .string b_1.Text]] W0 (fun v w' => v = .int .i64 y) := by
  refine enter (c := _) Tryd.func50 rfl T 22 Tryd.ntmps50 hT rfl fun a hS => ?_
  replace hS := hS.fact LvF (LvP.dn hLv)
  unfold ref23_Cmp at hM
  refine wp_seq_k fun K8 hK8 => ?_
  refine r_list ?_
  refine wl rfl (k_box hS rfl (cs := [.int .i64 a_0.Kind, .string a_0.Text]) rfl rfl fun b11 hnb13 a w hk hS => ?_)
  refine wl rfl (k_box hS rfl (cs := [.int .i64 b_1.Kind, .string b_1.Text]) rfl rfl fun b14 hnb16 a w hk hS => ?_)
  refine wl rfl (ky (v := .int .i64 0) hS (y_assign hS rfl) rfl rfl fun a hS => ?_)
  refine wpList_nil ?_
  try simp only [Exit.then, Exit.inBlock, ↓reduceIte, Nat.reduceEqDiff]
  refine hK8 _ _ ?_
  refine wp_seq_k fun K9 hK9 => ?_
  refine wp_block ?_
  refine wp_seq_k fun K10 hK10 => ?_
  refine r_list ?_
  refine wl rfl (ky (v := .pointer (some ⟨b11, 0 + 0, none⟩)) hS (y_fld hS rfl fl26_0) rfl rfl fun a hS => ?_)
  refine wl rfl (ky (v := .int .i64 a_0.Kind) hS (y_load hS rfl ty3 1 rfl id (us := [.int .i64 a_0.Kind]) rfl rfl (fun _ => rfl)) rfl rfl fun a hS => ?_)
  refine wl rfl (ky (v := .pointer (some ⟨b14, 0 + 0, none⟩)) hS (y_fld hS rfl fl26_0) rfl rfl fun a hS => ?_)
  refine wl rfl (ky (v := .int .i64 b_1.Kind) hS (y_load hS rfl ty3 0 rfl id (us := [.int .i64 b_1.Kind]) rfl rfl (fun _ => rfl)) rfl rfl fun a hS => ?_)
  refine wl rfl (ky (v := .bool (decide ((a_0.Kind : Int) < b_1.Kind))) hS (y_int hS rfl rfl rfl) rfl rfl fun a hS => ?_)
  refine wl rfl (ky (v := .bool (decide ((a_0.Kind : Int) < b_1.Kind))) hS (y_assign hS rfl) rfl rfl fun a hS => ?_)
  refine wpList_nil ?_
  try simp only [Exit.then, Exit.inBlock, ↓reduceIte, Nat.reduceEqDiff]
  refine hK10 _ _ ?_
  rcases bool2 (decide ((a_0.Kind : Int) < b_1.Kind)) with hb17 | hb17
  · replace hM := ct hb17 hM
    refine c_t hS rfl hb17 ?_
    refine wp_seq_k fun K11 hK11 => ?_
    refine r_list ?_
    refine wl rfl (ky (v := .int .i64 (-1)) hS (y_assign hS rfl) rfl rfl fun a hS => ?_)
    refine wpList_nil ?_
    try simp only [Exit.then, Exit.inBlock, ↓reduceIte, Nat.reduceEqDiff]
    refine hK11 _ _ ?_
    refine wp_ret ?_
    injection hM with hM
    subst hM
    try simp only [Exit.then, Exit.inBlock, ↓reduceIte, Nat.reduceEqDiff]
    refine ret_ok hS Tryd.results50 (res_tmp hS rfl res_nil) ?_
    exact rfl
  · replace hM := cf hb17 hM
    refine c_f hS rfl hb17 ?_
    refine wp_seq_k fun K12 hK12 => ?_
    refine r_list ?_
    refine wl rfl (ky (v := .pointer (some ⟨b11, 0 + 0, none⟩)) hS (y_fld hS rfl fl26_0) rfl rfl fun a hS => ?_)
    refine wl rfl (ky (v := .int .i64 a_0.Kind) hS (y_load hS rfl ty3 1 rfl id (us := [.int .i64 a_0.Kind]) rfl rfl (fun _ => rfl)) rfl rfl fun a hS => ?_)
    refine wl rfl (ky (v := .pointer (some ⟨b14, 0 + 0, none⟩)) hS (y_fld hS rfl fl26_0) rfl rfl fun a hS => ?_)
    refine wl rfl (ky (v := .int .i64 b_1.Kind) hS (y_load hS rfl ty3 0 rfl id (us := [.int .i64 b_1.Kind]) rfl rfl (fun _ => rfl)) rfl rfl fun a hS => ?_)
    refine wl rfl (ky (v := .bool (decide ((b_1.Kind : Int) < a_0.Kind))) hS (y_int hS rfl rfl rfl) rfl rfl fun a hS => ?_)
    refine wl rfl (ky (v := .bool (decide ((b_1.Kind : Int) < a_0.Kind))) hS (y_assign hS rfl) rfl rfl fun a hS => ?_)
    refine wpList_nil ?_
    try simp only [Exit.then, Exit.inBlock, ↓reduceIte, Nat.reduceEqDiff]
    refine hK12 _ _ ?_
    rcases bool2 (decide ((b_1.Kind : Int) < a_0.Kind)) with hb18 | hb18
    · replace hM := ct hb18 hM
      refine c_t hS rfl hb18 ?_
      refine wp_seq_k fun K13 hK13 => ?_
      refine r_list ?_
      refine wl rfl (ky (v := .int .i64 1) hS (y_assign hS rfl) rfl rfl fun a hS => ?_)
      refine wpList_nil ?_
      try simp only [Exit.then, Exit.inBlock, ↓reduceIte, Nat.reduceEqDiff]
      refine hK13 _ _ ?_
      refine wp_ret ?_
      injection hM with hM
      subst hM
      try simp only [Exit.then, Exit.inBlock, ↓reduceIte, Nat.reduceEqDiff]
      refine ret_ok hS Tryd.results50 (res_tmp hS rfl res_nil) ?_
      exact rfl
    · replace hM := cf hb18 hM
      refine c_f hS rfl hb18 ?_
      refine wp_skip ?_
      try simp only [Exit.then, Exit.inBlock, ↓reduceIte, Nat.reduceEqDiff]
      refine hK9 _ _ ?_
      refine wp_seq_k fun K14 hK14 => ?_
      refine r_list ?_
      refine wl rfl (ky (v := .pointer (some ⟨b11, 0 + 1, none⟩)) hS (y_fld hS rfl fl26_1) rfl rfl fun a hS => ?_)
      refine wl rfl (ky (v := .string a_0.Text) hS (y_load hS rfl ty9 1 rfl id (us := [.string a_0.Text]) rfl rfl (fun _ => rfl)) rfl rfl fun a hS => ?_)
      refine wl rfl (ky (v := .pointer (some ⟨b14, 0 + 1, none⟩)) hS (y_fld hS rfl fl26_1) rfl rfl fun a hS => ?_)
      refine wl rfl (ky (v := .string b_1.Text) hS (y_load hS rfl ty9 0 rfl id (us := [.string b_1.Text]) rfl rfl (fun _ => rfl)) rfl rfl fun a hS => ?_)
      obtain ⟨u19, hu19, hM⟩ := bd hM
      refine wl rfl (k_call hS ci80 rfl rfl (compareSM_c _ _ hS.dlt (hS.get 0 rfl) a_0.Text b_1.Text _ hu19) fun _ w hR a hk hA => ?_)
      have he := Eq.symm hR
      subst he
      have hS := hA [] (fun r hr => by cases hr) List.Pairwise.nil
      refine wl rfl (ky (v := .int .i64 u19) hS (y_assign hS rfl) rfl rfl fun a hS => ?_)
      refine wpList_nil ?_
      try simp only [Exit.then, Exit.inBlock, ↓reduceIte, Nat.reduceEqDiff]
      refine hK14 _ _ ?_
      refine wp_ret ?_
      injection hM with hM
      subst hM
      try simp only [Exit.then, Exit.inBlock, ↓reduceIte, Nat.reduceEqDiff]
      refine ret_ok hS Tryd.results50 (res_tmp hS rfl res_nil) ?_
      exact rfl

noncomputable def law39_BranchDiffs_j1 : Option Bool := (law39_awake).bind fun u5907 => some (u5907)
noncomputable def law39_BranchDiffs_j2 (g6287 : Int) : Option (Fl (Int) (Fl (Unit) Bool)) := some (.go (IntKind.i64.wrap (g6287 + 1)))
noncomputable def law39_BranchDiffs_j3 (at5147 : (List (KeyD × ByteArray))) (g6287 : Int) (want6945 : ByteArray) : Option (Fl (Int) (Fl (Unit) Bool)) := (ref23_Cell g6287).bind fun u6946 => (some ((mget keq_KeyD u6946 at5147).getD (ByteArray.mk #[]))).bind fun u6948 => cond (!(u6948.toList == want6945.toList)) (some (.out (.out false))) (law39_BranchDiffs_j2 g6287)
noncomputable def law39_BranchDiffs_j4 (g6998 : Int) (want7064 : ByteArray) : Option (Fl (ByteArray × Int) (ByteArray)) := some (.go (want7064, IntKind.i64.wrap (g6998 + 1)))
noncomputable def law39_BranchDiffs_l5 (u3946 : ((List ChangeD) × DiceD)) (g6287 : Int) (want6997 : ByteArray) (g6998 : Int) : Option (Fl (ByteArray × Int) (ByteArray)) := cond (decide ((g6998 : Int) < (u3946.1.length : Int))) ((getI u3946.1 g6998).bind fun e7065 => (ref23_Cell g6287).bind fun u7082 => cond ((e7065.Key.Kind : Int) == u7082.Kind && e7065.Key.Text.toList == u7082.Text.toList) (law39_BranchDiffs_j4 g6998 e7065.Value) (law39_BranchDiffs_j4 g6998 want6997)) (some (.out want6997))
noncomputable def law39_BranchDiffs_l6 (u3946 : ((List ChangeD) × DiceD)) (at5147 : (List (KeyD × ByteArray))) (g6287 : Int) : Option (Fl (Int) (Fl (Unit) Bool)) := cond (decide ((g6287 : Int) < 6)) ((loop (fun s : ByteArray × Int => law39_BranchDiffs_l5 u3946 g6287 s.1 s.2) ((ByteArray.mk #[]), 0)).bind fun r => law39_BranchDiffs_j3 at5147 g6287 r) (some (.out (.go ())))
noncomputable def law39_BranchDiffs_j7 (u3946 : ((List ChangeD) × DiceD)) (at5147 : (List (KeyD × ByteArray))) : Option Bool := (loop (fun s : Int => law39_BranchDiffs_l6 u3946 at5147 s) 0).bind fun r => Fl.el r (fun s => law39_BranchDiffs_j1) (fun y => some (y))
noncomputable def law39_BranchDiffs_j8 (g7666 : (List (List ChangeD))) (g7670 : Int) (at8515 : (List (KeyD × ByteArray))) : Option (Fl ((List (KeyD × ByteArray)) × (List (List ChangeD)) × Int) (Fl ((List (KeyD × ByteArray))) Bool)) := some (.go (at8515, g7666, IntKind.i64.wrap (g7670 + 1)))
noncomputable def law39_BranchDiffs_j9 (at8659 : (List (KeyD × ByteArray))) (g8662 : Int) (e8796 : ChangeD) (g8881 : Bool) : Option (Fl ((List (KeyD × ByteArray)) × Int) (Fl ((List (KeyD × ByteArray))) Bool)) := cond g8881 (some (.out (.out false))) (some (.go ((mput keq_KeyD e8796.Key e8796.Value at8659), IntKind.i64.wrap (g8662 + 1))))
noncomputable def law39_BranchDiffs_l10 (e8518 : (List ChangeD)) (at8659 : (List (KeyD × ByteArray))) (g8662 : Int) : Option (Fl ((List (KeyD × ByteArray)) × Int) (Fl ((List (KeyD × ByteArray))) Bool)) := cond (decide ((g8662 : Int) < (e8518.length : Int))) ((getI e8518 g8662).bind fun e8796 => cond (decide ((0 : Int) < g8662)) ((getI e8518 (IntKind.i64.wrap (g8662 - 1))).bind fun e8905 => (ref23_Cmp e8905.Key e8796.Key).bind fun u8912 => cond (decide ((0 : Int) ≤ u8912)) (law39_BranchDiffs_j9 at8659 g8662 e8796 true) ((some ((mget keq_KeyD e8796.Key at8659).getD (ByteArray.mk #[]))).bind fun u8915 => law39_BranchDiffs_j9 at8659 g8662 e8796 (u8915.toList == e8796.Value.toList))) ((some ((mget keq_KeyD e8796.Key at8659).getD (ByteArray.mk #[]))).bind fun u8919 => law39_BranchDiffs_j9 at8659 g8662 e8796 (u8919.toList == e8796.Value.toList))) (some (.out (.go at8659)))
noncomputable def law39_BranchDiffs_l11 (u7085 : (List ChangeD)) (u7088 : (List ChangeD)) (at7663 : (List (KeyD × ByteArray))) (g7666 : (List (List ChangeD))) (g7670 : Int) : Option (Fl ((List (KeyD × ByteArray)) × (List (List ChangeD)) × Int) (Fl ((List (KeyD × ByteArray))) Bool)) := cond (decide ((g7670 : Int) < (([u7085, u7088]).length : Int))) ((getI g7666 g7670).bind fun e8518 => (loop (fun s : (List (KeyD × ByteArray)) × Int => law39_BranchDiffs_l10 e8518 s.1 s.2) (at7663, 0)).bind fun r => Fl.el r (fun s => law39_BranchDiffs_j8 g7666 g7670 s) (fun y => some (.out (.out y)))) (some (.out (.go at7663)))
noncomputable def law39_BranchDiffs_j12 (u3940 : ((List ChangeD) × DiceD)) (u3943 : ((List ChangeD) × DiceD)) (u3946 : ((List ChangeD) × DiceD)) (at3992 : (List (KeyD × ByteArray))) : Option Bool := (branch_Diff u3940.1 u3943.1).bind fun u7085 => (branch_Diff u3943.1 u3946.1).bind fun u7088 => (loop (fun s : (List (KeyD × ByteArray)) × (List (List ChangeD)) × Int => law39_BranchDiffs_l11 u7085 u7088 s.1 s.2.1 s.2.2) (at3992, [u7085, u7088], 0)).bind fun r => Fl.el r (fun s => law39_BranchDiffs_j7 u3946 s) (fun y => some (y))
noncomputable def law39_BranchDiffs_l13 (u3940 : ((List ChangeD) × DiceD)) (at8941 : (List (KeyD × ByteArray))) (g8944 : Int) : Option (Fl ((List (KeyD × ByteArray)) × Int) ((List (KeyD × ByteArray)))) := cond (decide ((g8944 : Int) < (u3940.1.length : Int))) ((getI u3940.1 g8944).bind fun e8964 => some (.go ((mput keq_KeyD e8964.Key e8964.Value at8941), IntKind.i64.wrap (g8944 + 1)))) (some (.out at8941))
noncomputable def law39_BranchDiffs (t_0 : (List Int)) : Option Bool := (mill_Light t_0).bind fun u3932 => cond (!(u3932)) ((law39_awake).bind fun u3935 => some (u3935)) ((mill_Roll t_0).bind fun u3937 => (mill_Contents u3937).bind fun u3940 => (mill_Contents (DiceD.mk u3940.2.L u3940.2.At)).bind fun u3943 => (mill_Contents (DiceD.mk u3943.2.L u3943.2.At)).bind fun u3946 => (loop (fun s : (List (KeyD × ByteArray)) × Int => law39_BranchDiffs_l13 u3940 s.1 s.2) (([] : (List (KeyD × ByteArray))), 0)).bind fun r => law39_BranchDiffs_j12 u3940 u3943 u3946 r)
set_option maxRecDepth 100000 in
set_option maxHeartbeats 4000000 in
theorem law39_BranchDiffs_c (T : Nat → Prop) (W0 : World) (hT : ∀ k, T k → k < W0.heap.size) (hLv : LvP T W0) (t_0 : (List Int)) (v1 : Value) (hv1 : SlR (Rep.int .i64) T W0 v1 t_0) (y : Bool) (hM : law39_BranchDiffs t_0 = some y) : Rets Tryd.prog No 11 [v1] W0 (fun v w' => v = .bool y) := by
  refine enter (c := _) Tryd.func11 rfl T 117 Tryd.ntmps11 hT rfl fun a hS => ?_
  replace hS := hS.fact LvF (LvP.dn hLv)
  replace hS := hS.fact (SlF (Rep.int .i64) v1 t_0) (SlR.dn hv1)
  unfold law39_BranchDiffs at hM
  refine wp_seq_k fun K399 hK399 => ?_
  refine r_list ?_
  refine wl rfl (ky (v := .bool false) hS (y_assign hS rfl) rfl rfl fun a hS => ?_)
  refine wpList_nil ?_
  try simp only [Exit.then, Exit.inBlock, ↓reduceIte, Nat.reduceEqDiff]
  refine hK399 _ _ ?_
  refine wp_seq_k fun K400 hK400 => ?_
  refine wp_seq_k fun K401 hK401 => ?_
  refine r_list ?_
  refine wl rfl (ky (v := v1) hS (y_move hS rfl) rfl rfl fun a hS => ?_)
  obtain ⟨u3932, hu3932, hM⟩ := bd hM
  refine wl rfl (k_call hS ci26 rfl rfl (mill_Light_c _ _ hS.dlt t_0 _ (hS.get 0 rfl) _ hu3932) fun _ w hR a hk hA => ?_)
  have he := Eq.symm hR
  subst he
  have hS := hA [] (fun r hr => by cases hr) List.Pairwise.nil
  refine wl rfl (ky (v := .bool (!(u3932))) hS (y_not hS rfl) rfl rfl fun a hS => ?_)
  refine wpList_nil ?_
  try simp only [Exit.then, Exit.inBlock, ↓reduceIte, Nat.reduceEqDiff]
  refine hK401 _ _ ?_
  rcases bool2 (!(u3932)) with hb3934 | hb3934
  · replace hM := ct hb3934 hM
    refine c_t hS rfl hb3934 ?_
    refine wp_seq_k fun K402 hK402 => ?_
    refine r_list ?_
    obtain ⟨u3935, hu3935, hM⟩ := bd hM
    refine wl rfl (k_call hS ci45 rfl rfl (law39_awake_c _ _ hS.dlt (hS.get 1 rfl) _ hu3935) fun _ w hR a hk hA => ?_)
    have he := Eq.symm hR
    subst he
    have hS := hA [] (fun r hr => by cases hr) List.Pairwise.nil
    refine wl rfl (ky (v := .bool u3935) hS (y_assign hS rfl) rfl rfl fun a hS => ?_)
    refine wpList_nil ?_
    try simp only [Exit.then, Exit.inBlock, ↓reduceIte, Nat.reduceEqDiff]
    refine hK402 _ _ ?_
    refine wp_ret ?_
    injection hM with hM
    subst hM
    try simp only [Exit.then, Exit.inBlock, ↓reduceIte, Nat.reduceEqDiff]
    refine ret_ok hS Tryd.results11 (res_tmp hS rfl res_nil) ?_
    exact rfl
  · replace hM := cf hb3934 hM
    refine c_f hS rfl hb3934 ?_
    refine wp_skip ?_
    try simp only [Exit.then, Exit.inBlock, ↓reduceIte, Nat.reduceEqDiff]
    refine hK400 _ _ ?_
    refine wp_seq_k fun K403 hK403 => ?_
    refine r_list ?_
    refine wl rfl (ky (v := v1) hS (y_move hS rfl) rfl rfl fun a hS => ?_)
    obtain ⟨u3937, hu3937, hM⟩ := bd hM
    refine wl rfl (k_call hS ci29 rfl rfl (mill_Roll_c _ _ hS.dlt t_0 _ (hS.get 0 rfl) _ hu3937) fun _ w hR a hk hA => ?_)
    obtain ⟨bz3938_2, vz3938_3, he, hFbz3938_2, hObz3938_2, hRvz3938_3⟩ := hR
    replace he := he.symm
    subst he
    have hS := hA [.box bz3938_2 [vz3938_3, .int .i64 u3937.At] 104] (adds1 hObz3938_2 (fun k hk => by simp only [Res.dom, Option.some.injEq] at hk; omega)) (pw1 _)
    replace hS := hS.fact (SlF (Rep.int .i64) vz3938_3 u3937.L) (hRvz3938_3.sub (dT_dT _))
    refine wl rfl (ky (v := .pointer (some ⟨bz3938_2, 0, none⟩)) hS (y_assign hS rfl) rfl rfl fun a hS => ?_)
    refine wpList_nil ?_
    try simp only [Exit.then, Exit.inBlock, ↓reduceIte, Nat.reduceEqDiff]
    refine hK403 _ _ ?_
    refine wp_seq_k fun K404 hK404 => ?_
    refine r_list ?_
    refine wl rfl (ky (v := .pointer (some ⟨bz3938_2, 0, none⟩)) hS (y_move hS rfl) rfl rfl fun a hS => ?_)
    obtain ⟨u3940, hu3940, hM⟩ := bd hM
    refine wl rfl (k_callmr hS ci46 rfl rfl 0 rfl (mill_Contents_c _ _ (hS.drop 0).dlt u3937 _ _ (hS.boxRow 0 rfl) (hS.notin 0 rfl) (SlR.lent (i := 0) rfl (hS.get 0 rfl)) (LvF.keep (hS.get 2 rfl) (Kt.refl _ _) (fun k hk => .inl ((dT_in (i := 0) rfl k).1 hk))) _ hu3940) fun _ w hR hk => ?_)
    obtain ⟨vz3941_3, clz3941_4, vz3941_5, he, ⟨hOvz3941_3, hFvz3941_3, hRvz3941_3⟩, hrow, hRvz3941_5⟩ := hR
    replace he := he.symm
    subst he
    refine ⟨[vz3941_5, .int .i64 u3940.2.At], [.own vz3941_3 88 R_ChangeD.size clz3941_4], hrow, adds1 ⟨hOvz3941_3, by decide⟩ hFvz3941_3, pw1 _, fun a hS => ?_⟩
    replace hS := hS.fact (RowsF R_ChangeD clz3941_4 u3940.1) (hRvz3941_3.keep (Kt.refl _ _) (Nw.back2 (i := 0) rfl [.own vz3941_3 88 R_ChangeD.size clz3941_4] _))
    replace hS := hS.fact (SlF (Rep.int .i64) vz3941_5 u3940.2.L) (hRvz3941_5.sub (Nw.back2 (i := 0) rfl [.own vz3941_3 88 R_ChangeD.size clz3941_4] _))
    refine wl rfl (ky (v := .pointer (some ⟨bz3938_2, 0, none⟩)) hS (y_move hS rfl) rfl rfl fun a hS => ?_)
    obtain ⟨u3943, hu3943, hM⟩ := bd hM
    refine wl rfl (k_callmr hS ci46 rfl rfl 1 rfl (mill_Contents_c _ _ (hS.drop 1).dlt (DiceD.mk u3940.2.L u3940.2.At) _ _ (hS.boxRow 1 rfl) (hS.notin 1 rfl) (SlR.lent (i := 1) rfl (hS.get 0 rfl)) (LvF.keep (hS.get 4 rfl) (Kt.refl _ _) (fun k hk => .inl ((dT_in (i := 1) rfl k).1 hk))) _ hu3943) fun _ w hR hk => ?_)
    obtain ⟨vz3944_3, clz3944_4, vz3944_5, he, ⟨hOvz3944_3, hFvz3944_3, hRvz3944_3⟩, hrow, hRvz3944_5⟩ := hR
    replace he := he.symm
    subst he
    refine ⟨[vz3944_5, .int .i64 u3943.2.At], [.own vz3944_3 88 R_ChangeD.size clz3944_4], hrow, adds1 ⟨hOvz3944_3, by decide⟩ hFvz3944_3, pw1 _, fun a hS => ?_⟩
    replace hS := hS.fact (RowsF R_ChangeD clz3944_4 u3943.1) (hRvz3944_3.keep (Kt.refl _ _) (Nw.back2 (i := 1) rfl [.own vz3944_3 88 R_ChangeD.size clz3944_4] _))
    replace hS := hS.fact (SlF (Rep.int .i64) vz3944_5 u3943.2.L) (hRvz3944_5.sub (Nw.back2 (i := 1) rfl [.own vz3944_3 88 R_ChangeD.size clz3944_4] _))
    refine wl rfl (ky (v := .pointer (some ⟨bz3938_2, 0, none⟩)) hS (y_move hS rfl) rfl rfl fun a hS => ?_)
    obtain ⟨u3946, hu3946, hM⟩ := bd hM
    refine wl rfl (k_callmr hS ci46 rfl rfl 2 rfl (mill_Contents_c _ _ (hS.drop 2).dlt (DiceD.mk u3943.2.L u3943.2.At) _ _ (hS.boxRow 2 rfl) (hS.notin 2 rfl) (SlR.lent (i := 2) rfl (hS.get 0 rfl)) (LvF.keep (hS.get 6 rfl) (Kt.refl _ _) (fun k hk => .inl ((dT_in (i := 2) rfl k).1 hk))) _ hu3946) fun _ w hR hk => ?_)
    obtain ⟨vz3947_3, clz3947_4, vz3947_5, he, ⟨hOvz3947_3, hFvz3947_3, hRvz3947_3⟩, hrow, hRvz3947_5⟩ := hR
    replace he := he.symm
    subst he
    refine ⟨[vz3947_5, .int .i64 u3946.2.At], [.own vz3947_3 88 R_ChangeD.size clz3947_4], hrow, adds1 ⟨hOvz3947_3, by decide⟩ hFvz3947_3, pw1 _, fun a hS => ?_⟩
    replace hS := hS.fact (RowsF R_ChangeD clz3947_4 u3946.1) (hRvz3947_3.keep (Kt.refl _ _) (Nw.back2 (i := 2) rfl [.own vz3947_3 88 R_ChangeD.size clz3947_4] _))
    replace hS := hS.fact (SlF (Rep.int .i64) vz3947_5 u3946.2.L) (hRvz3947_5.sub (Nw.back2 (i := 2) rfl [.own vz3947_3 88 R_ChangeD.size clz3947_4] _))
    refine wl rfl (ky (v := vz3941_3) hS (y_assign hS rfl) rfl rfl fun a hS => ?_)
    refine wl rfl (ky (v := vz3944_3) hS (y_assign hS rfl) rfl rfl fun a hS => ?_)
    refine wl rfl (ky (v := vz3947_3) hS (y_assign hS rfl) rfl rfl fun a hS => ?_)
    refine wpList_nil ?_
    try simp only [Exit.then, Exit.inBlock, ↓reduceIte, Nat.reduceEqDiff]
    refine hK404 _ _ ?_
    refine wp_seq_k fun K405 hK405 => ?_
    refine r_list ?_
    refine wl rfl (k_mkmap R_KeyD true Rep.str false hS rfl fun b3949 hnb3950 a w hk hS => ?_)
    refine wl rfl (ky (v := .map (some b3949)) hS (y_assign hS rfl) rfl rfl fun a hS => ?_)
    refine wpList_nil ?_
    try simp only [Exit.then, Exit.inBlock, ↓reduceIte, Nat.reduceEqDiff]
    refine hK405 _ _ ?_
    refine seq_j (J := fun a w => ∃ (at3992 : (List (KeyD × ByteArray))) (es3993 : (Array MapEntry)) (ck3994 : Nat), St W0 No T 117 [(4, vz3941_3), (5, vz3944_3), (6, vz3947_3), (7, .map (some b3949))] [.own vz3941_3 88 R_ChangeD.size clz3941_4, .own vz3944_3 88 R_ChangeD.size clz3944_4, .own vz3947_3 88 R_ChangeD.size clz3947_4, .obj b3949 (.map es3993 ck3994)] [RowsF R_ChangeD clz3941_4 u3940.1, RowsF R_ChangeD clz3944_4 u3943.1, RowsF R_ChangeD clz3947_4 u3946.1, MapF R_KeyD true Rep.str false es3993 at3992, LvF] a w ∧ law39_BranchDiffs_j12 u3940 u3943 u3946 at3992 = some y) ?_ ?_
    · skip
      refine wp_seq_k fun K892 hK892 => ?_
      refine r_list ?_
      refine wl rfl (ky (v := vz3941_3) hS (y_move hS rfl) rfl rfl fun a hS => ?_)
      refine wl rfl (ky (v := .int .i64 (u3940.1.length : Int)) hS (y_leno (R := R_ChangeD) (xs := u3940.1) hS sl79 rfl 3 rfl 6 rfl) rfl rfl fun a hS => ?_)
      refine wl rfl (ky (v := .int .i64 0) hS (y_move hS rfl) rfl rfl fun a hS => ?_)
      refine wpList_nil ?_
      try simp only [Exit.then, Exit.inBlock, ↓reduceIte, Nat.reduceEqDiff]
      refine hK892 _ _ ?_
      refine wp_block ?_
      obtain ⟨r1, hl1, hMo1⟩ := bd hM
      refine wp_lp (fun s : (List (KeyD × ByteArray)) × Int => law39_BranchDiffs_l13 u3940 s.1 s.2) (fun s a w => ∃ (at8941 : (List (KeyD × ByteArray))) (g8944 : Int) (es8942 : (Array MapEntry)) (ck8943 : Nat), (at8941, g8944) = s ∧ St W0 No T 117 [(4, vz3941_3), (5, vz3944_3), (6, vz3947_3), (7, .map (some b3949)), (31, vz3941_3), (32, .int .i64 (u3940.1.length : Int)), (33, .int .i64 g8944)] [.own vz3941_3 88 R_ChangeD.size clz3941_4, .own vz3944_3 88 R_ChangeD.size clz3944_4, .own vz3947_3 88 R_ChangeD.size clz3947_4, .obj b3949 (.map es8942 ck8943)] [RowsF R_ChangeD clz3941_4 u3940.1, RowsF R_ChangeD clz3944_4 u3943.1, RowsF R_ChangeD clz3947_4 u3946.1, MapF R_KeyD true Rep.str false es8942 at8941, LvF] a w) hl1 ⟨([] : (List (KeyD × ByteArray))), 0, (#[]), 0, rfl, (hS.meet [3, 2, 1, 0] (by decide) ⟨rfl, rfl, rfl, rfl, rfl, rfl, rfl, trivial⟩ ⟨rfl, rfl, rfl, rfl, trivial⟩ ⟨⟨6, rfl⟩, ⟨4, rfl⟩, ⟨2, rfl⟩, ⟨0, rfl⟩, ⟨9, rfl⟩, trivial⟩)⟩ ?_
      rintro s a w f1 ⟨at8941, g8944, es8942, ck8943, rfl, hS⟩ hM hf1
      have hM : law39_BranchDiffs_l13 u3940 at8941 g8944 = some f1 := hM
      unfold law39_BranchDiffs_l13 at hM
      refine wp_seq_k fun K901 hK901 => ?_
      refine r_list ?_
      refine wl rfl (ky (v := .bool (decide ((g8944 : Int) < (u3940.1.length : Int)))) hS (y_int hS rfl rfl rfl) rfl rfl fun a hS => ?_)
      refine wpList_nil ?_
      try simp only [Exit.then, Exit.inBlock, ↓reduceIte, Nat.reduceEqDiff]
      refine hK901 _ _ ?_
      refine wp_seq_k fun K902 hK902 => ?_
      rcases bool2 (decide ((g8944 : Int) < (u3940.1.length : Int))) with hb8963 | hb8963
      · replace hM := ct hb8963 hM
        refine c_t hS rfl hb8963 ?_
        refine wp_skip ?_
        try simp only [Exit.then, Exit.inBlock, ↓reduceIte, Nat.reduceEqDiff]
        refine hK902 _ _ ?_
        refine wp_seq_k fun K903 hK903 => ?_
        refine wp_block ?_
        refine wp_seq_k fun K904 hK904 => ?_
        refine r_list ?_
        obtain ⟨e8964, he8964, hM⟩ := bd hM
        refine wl rfl (k_indexo (R := R_ChangeD) hS sl79 ty88 rfl rfl 0 rfl 0 rfl he8964 rfl fun b8965 o8966 p8971 cs8968 hr8967 hO8969 hC8970 a hS => ?_)
        obtain rfl := hr8967
        refine wl rfl (ky (v := .agg #[.int .i64 e8964.Key.Kind, .string e8964.Key.Text, .string e8964.Value]) hS (y_loado (k := 0) hS ty88 0 rfl hO8969 hC8970 rfl id (us := [.int .i64 e8964.Key.Kind, .string e8964.Key.Text, .string e8964.Value]) rfl rfl (fun h => by cases h)) rfl rfl fun a hS => ?_)
        refine wl rfl (k_alloc hS ze88 rfl fun b8972 hnb8974 a w hk hS => ?_)
        refine wl rfl (k_store hS rfl rfl (us := [.int .i64 e8964.Key.Kind, .string e8964.Key.Text, .string e8964.Value]) rfl ty88 0 rfl rfl rfl (oc rfl (oc rfl (oc rfl on))) fun w hk hS => ?_)
        refine wpList_nil ?_
        try simp only [Exit.then, Exit.inBlock, ↓reduceIte, Nat.reduceEqDiff]
        refine hK904 _ _ ?_
        refine r_list ?_
        refine wl rfl (ky (v := .map (some b3949)) hS (y_move hS rfl) rfl rfl fun a hS => ?_)
        refine wl rfl (ky (v := .pointer (some ⟨b8972, 0 + 0, none⟩)) hS (y_fld hS rfl fl88_0) rfl rfl fun a hS => ?_)
        refine wl rfl (ky (v := .agg #[.int .i64 e8964.Key.Kind, .string e8964.Key.Text]) hS (y_load hS rfl ty26 0 rfl id (us := [.int .i64 e8964.Key.Kind, .string e8964.Key.Text]) rfl rfl (fun h => by cases h)) rfl rfl fun a hS => ?_)
        refine wl rfl (ky (v := .pointer (some ⟨b8972, 0 + 2, none⟩)) hS (y_fld hS rfl fl88_1) rfl rfl fun a hS => ?_)
        refine wl rfl (ky (v := .string e8964.Value) hS (y_load hS rfl ty9 0 rfl id (us := [.string e8964.Value]) rfl rfl (fun _ => rfl)) rfl rfl fun a hS => ?_)
        refine wl rfl (k_mput hS mp84 kt_KeyD 4 rfl 3 rfl (c := [.int .i64 e8964.Key.Kind, .string e8964.Key.Text]) (cv := [.string e8964.Value]) (key := e8964.Key) (val := e8964.Value) rfl rfl rfl rfl rfl fun es8975 ck8976 w hk hS => ?_)
        refine wpList_nil ?_
        try simp only [Exit.then, Exit.inBlock, ↓reduceIte, Nat.reduceEqDiff]
        refine hK903 _ _ ?_
        refine r_list ?_
        refine wl rfl (ky (v := .int .i64 (IntKind.i64.wrap (g8944 + 1))) hS (y_int hS rfl rfl rfl) rfl rfl fun a hS => ?_)
        refine wl rfl (ky (v := .int .i64 (IntKind.i64.wrap (g8944 + 1))) hS (y_move hS rfl) rfl rfl fun a hS => ?_)
        refine wpList_nil ?_
        try simp only [Exit.then, Exit.inBlock, ↓reduceIte, Nat.reduceEqDiff]
        exact ⟨((mput keq_KeyD e8964.Key e8964.Value at8941), IntKind.i64.wrap (g8944 + 1)), (Option.some.inj hM).symm, (mput keq_KeyD e8964.Key e8964.Value at8941), (IntKind.i64.wrap (g8944 + 1)), es8975, ck8976, rfl, (hS.meet [1, 2, 3, 4] (by decide) ⟨rfl, rfl, rfl, rfl, rfl, rfl, rfl, trivial⟩ ⟨rfl, rfl, rfl, rfl, trivial⟩ ⟨⟨1, rfl⟩, ⟨2, rfl⟩, ⟨3, rfl⟩, ⟨0, rfl⟩, ⟨5, rfl⟩, trivial⟩)⟩
      · replace hM := cf hb8963 hM
        refine c_f hS rfl hb8963 ?_
        refine wp_exit ?_
        try simp only [Exit.then, Exit.inBlock, ↓reduceIte, Nat.reduceEqDiff]
        injection hM with hM
        subst hM
        have hr := hf1 _ rfl
        subst hr
        have hM : law39_BranchDiffs_j12 u3940 u3943 u3946 at8941 = some y := hMo1
        exact ⟨at8941, es8942, ck8943, (hS.meet [0, 1, 2, 3] (by decide) ⟨rfl, rfl, rfl, rfl, trivial⟩ ⟨rfl, rfl, rfl, rfl, trivial⟩ ⟨⟨0, rfl⟩, ⟨1, rfl⟩, ⟨2, rfl⟩, ⟨3, rfl⟩, ⟨4, rfl⟩, trivial⟩), hM⟩
    · rintro a w ⟨at3992, es3993, ck3994, hS, hM⟩
      unfold law39_BranchDiffs_j12 at hM
      refine seq_j (J := fun a w => ∃ (at5147 : (List (KeyD × ByteArray))) (es5148 : (Array MapEntry)) (ck5149 : Nat), St W0 No T 117 [(6, vz3947_3), (7, .map (some b3949))] [.own vz3947_3 88 R_ChangeD.size clz3947_4, .obj b3949 (.map es5148 ck5149)] [RowsF R_ChangeD clz3947_4 u3946.1, MapF R_KeyD true Rep.str false es5148 at5147, LvF] a w ∧ law39_BranchDiffs_j7 u3946 at5147 = some y) ?_ ?_
      · skip
        refine wp_seq_k fun K795 hK795 => ?_
        refine r_list ?_
        refine wl rfl (ky (v := vz3941_3) hS (y_move hS rfl) rfl rfl fun a hS => ?_)
        refine wl rfl (ky (v := vz3944_3) hS (y_move hS rfl) rfl rfl fun a hS => ?_)
        have hL := hS
        replace hL := hL.freeze (R := R_ChangeD) 0 rfl 0 rfl
        replace hL := hL.freeze (R := R_ChangeD) 0 rfl 2 rfl
        obtain ⟨u7085, hu7085, hM⟩ := bd hM
        refine wl rfl (k_call hS ci49 rfl rfl (branch_Diff_c _ _ hL.dlt (hL.get 6 rfl) u3940.1 u3943.1 _ _ (hL.get 1 rfl) (hL.get 0 rfl) _ hu7085) fun _ w hR a hk hA => ?_)
        obtain ⟨vz7086_3, clz7086_4, he, ⟨hOvz7086_3, hFvz7086_3, hRvz7086_3⟩⟩ := hR
        replace he := he.symm
        subst he
        have hS := hA [.own vz7086_3 88 R_ChangeD.size clz7086_4] (adds1 ⟨hOvz7086_3, by decide⟩ hFvz7086_3) (pw1 _)
        replace hS := hS.fact (RowsF R_ChangeD clz7086_4 u7085) hRvz7086_3
        refine wl rfl (ky (v := vz3944_3) hS (y_move hS rfl) rfl rfl fun a hS => ?_)
        refine wl rfl (ky (v := vz3947_3) hS (y_move hS rfl) rfl rfl fun a hS => ?_)
        have hL := hS
        replace hL := hL.freeze (R := R_ChangeD) 2 rfl 2 rfl
        replace hL := hL.freeze (R := R_ChangeD) 2 rfl 4 rfl
        obtain ⟨u7088, hu7088, hM⟩ := bd hM
        refine wl rfl (k_call hS ci49 rfl rfl (branch_Diff_c _ _ hL.dlt (hL.get 7 rfl) u3943.1 u3946.1 _ _ (hL.get 1 rfl) (hL.get 0 rfl) _ hu7088) fun _ w hR a hk hA => ?_)
        obtain ⟨vz7089_3, clz7089_4, he, ⟨hOvz7089_3, hFvz7089_3, hRvz7089_3⟩⟩ := hR
        replace he := he.symm
        subst he
        have hS := hA [.own vz7089_3 88 R_ChangeD.size clz7089_4] (adds1 ⟨hOvz7089_3, by decide⟩ hFvz7089_3) (pw1 _)
        replace hS := hS.fact (RowsF R_ChangeD clz7089_4 u7088) hRvz7089_3
        refine wl rfl (k_bslice (ps := [(0, .tmp 45), (1, .tmp 48)]) hS el86 ze79 (zl := [.slice none 0 0, .slice none 0 0]) (by kernel_rfl) rfl (us := [[vz7086_3], [vz7089_3]]) ⟨(cells1 (own_one (hS.own _ (List.mem_of_getElem? (i := 1) rfl)).1)), ⟨(cells1 (own_one (hS.own _ (List.mem_of_getElem? (i := 0) rfl)).1)), trivial⟩⟩ (ws := [vz7086_3, vz7089_3]) rfl rfl rfl rfl fun b7091 a w hk hS => ?_)
        replace hS := hS.freeze (R := R_ChangeD) 2 rfl 1 rfl
        replace hS := hS.freeze (R := R_ChangeD) 1 rfl 1 rfl
        replace hS := hS.lit (R := (Rep.slice R_ChangeD)) (us := [vz7086_3, vz7089_3]) (xs := [u7085, u7088]) 0 rfl (by decide) ((RowsOk.one_ (R := (Rep.slice R_ChangeD)) (x := u7085) (⟨_, rfl, (hS.get 1 rfl)⟩)).append (RowsOk.one_ (R := (Rep.slice R_ChangeD)) (x := u7088) (⟨_, rfl, (hS.get 0 rfl)⟩))) rfl rfl
        refine wl rfl (ky (v := .int .i64 (([u7085, u7088]).length : Int)) hS (y_leno (R := (Rep.slice R_ChangeD)) (xs := [u7085, u7088]) hS sl86 rfl 0 rfl 0 rfl) rfl rfl fun a hS => ?_)
        refine wl rfl (ky (v := .int .i64 0) hS (y_move hS rfl) rfl rfl fun a hS => ?_)
        refine wpList_nil ?_
        try simp only [Exit.then, Exit.inBlock, ↓reduceIte, Nat.reduceEqDiff]
        refine hK795 _ _ ?_
        refine wp_block ?_
        obtain ⟨r1, hl1, hMo1⟩ := bd hM
        refine wp_lp (fun s : (List (KeyD × ByteArray)) × (List (List ChangeD)) × Int => law39_BranchDiffs_l11 u7085 u7088 s.1 s.2.1 s.2.2) (fun s a w => ∃ (at7663 : (List (KeyD × ByteArray))) (g7666 : (List (List ChangeD))) (g7670 : Int) (es7664 : (Array MapEntry)) (ck7665 : Nat) (v7667 : Value) (cl7668 : (List Value)), (at7663, g7666, g7670) = s ∧ St W0 No T 117 [(6, vz3947_3), (7, .map (some b3949)), (49, v7667), (50, .int .i64 (([u7085, u7088]).length : Int)), (51, .int .i64 g7670)] [.own vz3947_3 88 R_ChangeD.size clz3947_4, .obj b3949 (.map es7664 ck7665), .own v7667 79 (Rep.slice R_ChangeD).size cl7668] [RowsF R_ChangeD clz3947_4 u3946.1, MapF R_KeyD true Rep.str false es7664 at7663, RowsF (Rep.slice R_ChangeD) cl7668 g7666, LvF] a w) hl1 ⟨at3992, ([u7085, u7088]), 0, es3993, ck3994, (.slice (some ⟨b7091, 0, none⟩) 2 2), ([vz7086_3, vz7089_3]), rfl, (hS.meet [3, 4, 0] (by decide) ⟨rfl, rfl, rfl, rfl, rfl, trivial⟩ ⟨rfl, rfl, rfl, trivial⟩ ⟨⟨7, rfl⟩, ⟨8, rfl⟩, ⟨0, rfl⟩, ⟨9, rfl⟩, trivial⟩)⟩ ?_
        rintro s a w f1 ⟨at7663, g7666, g7670, es7664, ck7665, v7667, cl7668, rfl, hS⟩ hM hf1
        have hM : law39_BranchDiffs_l11 u7085 u7088 at7663 g7666 g7670 = some f1 := hM
        unfold law39_BranchDiffs_l11 at hM
        refine wp_seq_k fun K856 hK856 => ?_
        refine r_list ?_
        refine wl rfl (ky (v := .bool (decide ((g7670 : Int) < (([u7085, u7088]).length : Int)))) hS (y_int hS rfl rfl rfl) rfl rfl fun a hS => ?_)
        refine wpList_nil ?_
        try simp only [Exit.then, Exit.inBlock, ↓reduceIte, Nat.reduceEqDiff]
        refine hK856 _ _ ?_
        refine wp_seq_k fun K857 hK857 => ?_
        rcases bool2 (decide ((g7670 : Int) < (([u7085, u7088]).length : Int))) with hb8237 | hb8237
        · replace hM := ct hb8237 hM
          refine c_t hS rfl hb8237 ?_
          refine wp_skip ?_
          try simp only [Exit.then, Exit.inBlock, ↓reduceIte, Nat.reduceEqDiff]
          refine hK857 _ _ ?_
          refine seq_j (J := fun a w => ∃ (at8515 : (List (KeyD × ByteArray))) (es8516 : (Array MapEntry)) (ck8517 : Nat), St W0 No T 117 [(6, vz3947_3), (7, .map (some b3949)), (49, v7667), (50, .int .i64 (([u7085, u7088]).length : Int)), (51, .int .i64 g7670)] [.own vz3947_3 88 R_ChangeD.size clz3947_4, .obj b3949 (.map es8516 ck8517), .own v7667 79 (Rep.slice R_ChangeD).size cl7668] [RowsF R_ChangeD clz3947_4 u3946.1, MapF R_KeyD true Rep.str false es8516 at8515, RowsF (Rep.slice R_ChangeD) cl7668 g7666, LvF] a w ∧ law39_BranchDiffs_j8 g7666 g7670 at8515 = some f1) ?_ ?_
          · skip
            refine wp_block ?_
            refine wp_seq_k fun K872 hK872 => ?_
            refine r_list ?_
            obtain ⟨e8518, he8518, hM⟩ := bd hM
            refine wl rfl (k_indexo (R := (Rep.slice R_ChangeD)) hS sl86 ty79 rfl rfl 2 rfl 2 rfl he8518 rfl fun b8520 o8521 p8526 cs8523 hr8522 hO8524 hC8525 a hS => ?_)
            obtain ⟨v8519, rfl, hv8519⟩ := hr8522
            replace hS := hS.fact (SlF R_ChangeD v8519 e8518) hv8519
            refine wl rfl (ky (v := v8519) hS (y_loado (k := 0) hS ty79 2 rfl hO8524 hC8525 rfl id (us := [v8519]) rfl rfl (fun _ => rfl)) rfl rfl fun a hS => ?_)
            refine wl rfl (ky (v := v8519) hS (y_assign hS rfl) rfl rfl fun a hS => ?_)
            refine wpList_nil ?_
            try simp only [Exit.then, Exit.inBlock, ↓reduceIte, Nat.reduceEqDiff]
            refine hK872 _ _ ?_
            refine wp_seq_k fun K873 hK873 => ?_
            refine r_list ?_
            refine wl rfl (ky (v := v8519) hS (y_move hS rfl) rfl rfl fun a hS => ?_)
            refine wl rfl (ky (v := .int .i64 (e8518.length : Int)) hS (y_len (R := R_ChangeD) (xs := e8518) hS sl79 rfl 0 rfl) rfl rfl fun a hS => ?_)
            refine wl rfl (ky (v := .int .i64 0) hS (y_move hS rfl) rfl rfl fun a hS => ?_)
            refine wpList_nil ?_
            try simp only [Exit.then, Exit.inBlock, ↓reduceIte, Nat.reduceEqDiff]
            refine hK873 _ _ ?_
            refine wp_block ?_
            obtain ⟨r2, hl2, hMo2⟩ := bd hM
            refine wp_lp (fun s : (List (KeyD × ByteArray)) × Int => law39_BranchDiffs_l10 e8518 s.1 s.2) (fun s a w => ∃ (at8659 : (List (KeyD × ByteArray))) (g8662 : Int) (es8660 : (Array MapEntry)) (ck8661 : Nat), (at8659, g8662) = s ∧ St W0 No T 117 [(6, vz3947_3), (7, .map (some b3949)), (11, v8519), (49, v7667), (50, .int .i64 (([u7085, u7088]).length : Int)), (51, .int .i64 g7670), (55, v8519), (56, .int .i64 (e8518.length : Int)), (57, .int .i64 g8662)] [.own vz3947_3 88 R_ChangeD.size clz3947_4, .obj b3949 (.map es8660 ck8661), .own v7667 79 (Rep.slice R_ChangeD).size cl7668] [RowsF R_ChangeD clz3947_4 u3946.1, MapF R_KeyD true Rep.str false es8660 at8659, SlF R_ChangeD v8519 e8518, RowsF (Rep.slice R_ChangeD) cl7668 g7666, LvF] a w) hl2 ⟨at7663, 0, es7664, ck7665, rfl, (hS.meet [0, 1, 2] (by decide) ⟨rfl, rfl, rfl, rfl, rfl, rfl, rfl, rfl, rfl, trivial⟩ ⟨rfl, rfl, rfl, trivial⟩ ⟨⟨1, rfl⟩, ⟨2, rfl⟩, ⟨0, rfl⟩, ⟨3, rfl⟩, ⟨4, rfl⟩, trivial⟩)⟩ ?_
            rintro s a w f2 ⟨at8659, g8662, es8660, ck8661, rfl, hS⟩ hM hf2
            have hM : law39_BranchDiffs_l10 e8518 at8659 g8662 = some f2 := hM
            unfold law39_BranchDiffs_l10 at hM
            refine wp_seq_k fun K886 hK886 => ?_
            refine r_list ?_
            refine wl rfl (ky (v := .bool (decide ((g8662 : Int) < (e8518.length : Int)))) hS (y_int hS rfl rfl rfl) rfl rfl fun a hS => ?_)
            refine wpList_nil ?_
            try simp only [Exit.then, Exit.inBlock, ↓reduceIte, Nat.reduceEqDiff]
            refine hK886 _ _ ?_
            refine wp_seq_k fun K887 hK887 => ?_
            rcases bool2 (decide ((g8662 : Int) < (e8518.length : Int))) with hb8795 | hb8795
            · replace hM := ct hb8795 hM
              refine c_t hS rfl hb8795 ?_
              refine wp_skip ?_
              try simp only [Exit.then, Exit.inBlock, ↓reduceIte, Nat.reduceEqDiff]
              refine hK887 _ _ ?_
              refine wp_seq_k fun K888 hK888 => ?_
              refine wp_block ?_
              refine wp_seq_k fun K889 hK889 => ?_
              refine r_list ?_
              refine wl rfl (ky (v := .int .i64 g8662) hS (y_move hS rfl) rfl rfl fun a hS => ?_)
              obtain ⟨e8796, he8796, hM⟩ := bd hM
              refine wl rfl (k_index (R := R_ChangeD) hS sl79 ty88 rfl rfl 2 rfl he8796 rfl fun b8797 o8798 cs8800 hr8799 a hS => ?_)
              obtain rfl := hr8799
              refine wl rfl (ky (v := .agg #[.int .i64 e8796.Key.Kind, .string e8796.Key.Text, .string e8796.Value]) hS (y_loadc (k := 0) hS ty88 0 rfl rfl (fun _ h => h.elim) (us := [.int .i64 e8796.Key.Kind, .string e8796.Key.Text, .string e8796.Value]) rfl rfl (fun h => by cases h)) rfl rfl fun a hS => ?_)
              refine wl rfl (k_alloc hS ze88 rfl fun b8802 hnb8804 a w hk hS => ?_)
              refine wl rfl (ky (v := .int .i64 g8662) hS (y_assign hS rfl) rfl rfl fun a hS => ?_)
              refine wl rfl (k_store hS rfl rfl (us := [.int .i64 e8796.Key.Kind, .string e8796.Key.Text, .string e8796.Value]) rfl ty88 0 rfl rfl rfl (oc rfl (oc rfl (oc rfl on))) fun w hk hS => ?_)
              refine wpList_nil ?_
              try simp only [Exit.then, Exit.inBlock, ↓reduceIte, Nat.reduceEqDiff]
              refine hK889 _ _ ?_
              refine wp_seq_k fun K890 hK890 => ?_
              refine seq_j (J := fun a w => ∃ (g8881 : Bool), St W0 No T 117 [(6, vz3947_3), (7, .map (some b3949)), (11, v8519), (13, .pointer (some ⟨b8802, 0, none⟩)), (49, v7667), (50, .int .i64 (([u7085, u7088]).length : Int)), (51, .int .i64 g7670), (55, v8519), (56, .int .i64 (e8518.length : Int)), (57, .int .i64 g8662), (84, .bool g8881)] [.own vz3947_3 88 R_ChangeD.size clz3947_4, .obj b3949 (.map es8660 ck8661), .own v7667 79 (Rep.slice R_ChangeD).size cl7668, .box b8802 [.int .i64 e8796.Key.Kind, .string e8796.Key.Text, .string e8796.Value] 88] [RowsF R_ChangeD clz3947_4 u3946.1, MapF R_KeyD true Rep.str false es8660 at8659, SlF R_ChangeD v8519 e8518, RowsF (Rep.slice R_ChangeD) cl7668 g7666, LvF] a w ∧ law39_BranchDiffs_j9 at8659 g8662 e8796 g8881 = some f2) ?_ ?_
              · skip
                refine draws [] hS mixed rfl (fun c a d v w h => by cases d <;> exact h) fun w hQ hS => ?_
                refine dy 0 (v := .int .i64 g8662) rfl (by kernel_rfl) (by kernel_rfl) (by kernel_rfl) rfl hQ hS (y_move hS rfl) rfl rfl rfl fun a hS => ?_
                refine dy 1 (v := .bool (decide ((0 : Int) < g8662))) rfl (by kernel_rfl) (by kernel_rfl) (by kernel_rfl) rfl hQ hS (y_int hS rfl rfl rfl) rfl rfl rfl fun a hS => ?_
                refine dy 2 (v := .bool (decide ((0 : Int) < g8662))) rfl (by kernel_rfl) (by kernel_rfl) (by kernel_rfl) rfl hQ hS (y_move hS rfl) rfl rfl rfl fun a hS => ?_
                rcases bool2 (decide ((0 : Int) < g8662)) with hb8904 | hb8904
                · replace hM := ct hb8904 hM
                  refine dyg 3 (v := v8519) rfl (by kernel_rfl) (by kernel_rfl) (by kernel_rfl) rfl hQ hS (y_move hS rfl) rfl rfl rfl hb8904 rfl rfl fun a hS => ?_
                  refine dyg 4 (v := .int .i64 g8662) rfl (by kernel_rfl) (by kernel_rfl) (by kernel_rfl) rfl hQ hS (y_move hS rfl) rfl rfl rfl hb8904 rfl rfl fun a hS => ?_
                  refine dyg 5 (v := .int .i64 (IntKind.i64.wrap (g8662 - 1))) rfl (by kernel_rfl) (by kernel_rfl) (by kernel_rfl) rfl hQ hS (y_int hS rfl rfl rfl) rfl rfl rfl hb8904 rfl rfl fun a hS => ?_
                  obtain ⟨e8905, he8905, hM⟩ := bd hM
                  obtain ⟨b8906, o8907, cs8909, hr8908, hy8911, hS⟩ := d_index (R := R_ChangeD) hS sl79 ty88 3 rfl he8905
                  obtain rfl := hr8908
                  refine dyg 6 (v := .pointer (some ⟨b8906, o8907, none⟩)) rfl (by kernel_rfl) (by kernel_rfl) (by kernel_rfl) rfl hQ hS (hy8911 rfl rfl) rfl rfl rfl hb8904 rfl rfl fun a hS => ?_
                  refine dyg 7 (v := .pointer (some ⟨b8906, o8907 + 0, none⟩)) rfl (by kernel_rfl) (by kernel_rfl) (by kernel_rfl) rfl hQ hS (y_fld hS rfl fl88_0) rfl rfl rfl hb8904 rfl rfl fun a hS => ?_
                  refine dyg (l := []) 8 (v := .agg #[.int .i64 e8905.Key.Kind, .string e8905.Key.Text]) rfl (by kernel_rfl) (by kernel_rfl) (by kernel_rfl) (by kernel_rfl) hQ hS (y_loadc (k := 0) hS ty26 0 rfl rfl es_nil (us := [.int .i64 e8905.Key.Kind, .string e8905.Key.Text]) rfl rfl (fun h => by cases h)) rfl rfl rfl hb8904 rfl rfl fun a hS => ?_
                  refine dyg 9 (v := .pointer (some ⟨b8802, 0 + 0, none⟩)) rfl (by kernel_rfl) (by kernel_rfl) (by kernel_rfl) rfl hQ hS (y_fld hS rfl fl88_0) rfl rfl rfl hb8904 rfl rfl fun a hS => ?_
                  refine dyg (l := []) 10 (v := .agg #[.int .i64 e8796.Key.Kind, .string e8796.Key.Text]) rfl (by kernel_rfl) (by kernel_rfl) (by kernel_rfl) (by kernel_rfl) hQ hS (y_load hS rfl ty26 0 rfl eo_nil (us := [.int .i64 e8796.Key.Kind, .string e8796.Key.Text]) rfl rfl (fun h => by cases h)) rfl rfl rfl hb8904 rfl rfl fun a hS => ?_
                  obtain ⟨u8912, hu8912, hM⟩ := bd hM
                  refine wpE_oneg (i := 11) rfl (by kernel_rfl) hS rfl rfl rfl hb8904 (k_call hS ci50 rfl rfl (ref23_Cmp_c _ _ hS.dlt (hS.get 6 rfl) e8905.Key e8796.Key _ hu8912) fun _ w hR a hk hA => ⟨stN (hk), ?_⟩)
                  have he := Eq.symm hR
                  subst he
                  have hS := hA [] (fun r hr => by cases hr) List.Pairwise.nil
                  refine dyg 12 (v := .bool (decide ((0 : Int) ≤ u8912))) rfl (by kernel_rfl) (by kernel_rfl) (by kernel_rfl) rfl hQ hS (y_int hS rfl rfl rfl) rfl rfl rfl hb8904 rfl rfl fun a hS => ?_
                  refine dy 13 (v := .bool (decide ((0 : Int) ≤ u8912))) rfl (by kernel_rfl) (by kernel_rfl) (by kernel_rfl) rfl hQ hS (y_pickt hS rfl hb8904 rfl) rfl rfl rfl fun a hS => ?_
                  refine dy 14 (v := .bool (decide ((0 : Int) ≤ u8912))) rfl (by kernel_rfl) (by kernel_rfl) (by kernel_rfl) rfl hQ hS (y_move hS rfl) rfl rfl rfl fun a hS => ?_
                  rcases bool2 (decide ((0 : Int) ≤ u8912)) with hb8914 | hb8914
                  · replace hM := ct hb8914 hM
                    refine dyn 15 rfl (by kernel_rfl) (by kernel_rfl) (by kernel_rfl) hQ hS rfl rfl rfl hb8914 rfl rfl fun a hS => ?_
                    refine dyn 16 rfl (by kernel_rfl) (by kernel_rfl) (by kernel_rfl) hQ hS rfl rfl rfl hb8914 rfl rfl fun a hS => ?_
                    refine dyn 17 rfl (by kernel_rfl) (by kernel_rfl) (by kernel_rfl) hQ hS rfl rfl rfl hb8914 rfl rfl fun a hS => ?_
                    refine dyn 18 rfl (by kernel_rfl) (by kernel_rfl) (by kernel_rfl) hQ hS rfl rfl rfl hb8914 rfl rfl fun a hS => ?_
                    refine dyn 19 rfl (by kernel_rfl) (by kernel_rfl) (by kernel_rfl) hQ hS rfl rfl rfl hb8914 rfl rfl fun a hS => ?_
                    refine dyn 20 rfl (by kernel_rfl) (by kernel_rfl) (by kernel_rfl) hQ hS rfl rfl rfl hb8914 rfl rfl fun a hS => ?_
                    refine dyn 21 rfl (by kernel_rfl) (by kernel_rfl) (by kernel_rfl) hQ hS rfl rfl rfl hb8914 rfl rfl fun a hS => ?_
                    refine dy 22 (v := .bool true) rfl (by kernel_rfl) (by kernel_rfl) (by kernel_rfl) rfl hQ hS (y_pickt hS rfl hb8914 rfl) rfl rfl rfl fun a hS => ?_
                    refine wpE_done (by kernel_rfl) ?_ _
                    try simp only [Exit.then, Exit.inBlock, ↓reduceIte, Nat.reduceEqDiff]
                    exact ⟨true, (hS.meet [1, 2, 3, 0] (by decide) ⟨rfl, rfl, rfl, rfl, rfl, rfl, rfl, rfl, rfl, rfl, rfl, trivial⟩ ⟨rfl, rfl, rfl, rfl, trivial⟩ ⟨⟨2, rfl⟩, ⟨3, rfl⟩, ⟨4, rfl⟩, ⟨5, rfl⟩, ⟨6, rfl⟩, trivial⟩), hM⟩
                  · replace hM := cf hb8914 hM
                    refine dyg 15 (v := .map (some b3949)) rfl (by kernel_rfl) (by kernel_rfl) (by kernel_rfl) rfl hQ hS (y_move hS rfl) rfl rfl rfl hb8914 rfl rfl fun a hS => ?_
                    refine dyg 16 (v := .pointer (some ⟨b8802, 0 + 0, none⟩)) rfl (by kernel_rfl) (by kernel_rfl) (by kernel_rfl) rfl hQ hS (y_fld hS rfl fl88_0) rfl rfl rfl hb8914 rfl rfl fun a hS => ?_
                    refine dyg (l := []) 17 (v := .agg #[.int .i64 e8796.Key.Kind, .string e8796.Key.Text]) rfl (by kernel_rfl) (by kernel_rfl) (by kernel_rfl) (by kernel_rfl) hQ hS (y_load hS rfl ty26 0 rfl eo_nil (us := [.int .i64 e8796.Key.Kind, .string e8796.Key.Text]) rfl rfl (fun h => by cases h)) rfl rfl rfl hb8914 rfl rfl fun a hS => ?_
                    obtain ⟨u8915, hu8915, hM⟩ := bd hM
                    obtain ⟨cv8916, hr8917, hy8918⟩ := d_looku hS mp84 kt_KeyD 2 rfl 3 rfl (c := [.int .i64 e8796.Key.Kind, .string e8796.Key.Text]) (key := e8796.Key) rfl zv9 (zc := [.string (ByteArray.mk #[])]) rfl rfl hu8915
                    obtain rfl := hr8917
                    refine dyg (l := []) 18 (v := .string u8915) rfl (by kernel_rfl) (by kernel_rfl) (by kernel_rfl) (by kernel_rfl) hQ hS (hy8918 rfl rfl eo_nil) rfl rfl rfl hb8914 rfl rfl fun a hS => ?_
                    refine dyg 19 (v := .pointer (some ⟨b8802, 0 + 2, none⟩)) rfl (by kernel_rfl) (by kernel_rfl) (by kernel_rfl) rfl hQ hS (y_fld hS rfl fl88_1) rfl rfl rfl hb8914 rfl rfl fun a hS => ?_
                    refine dyg (l := []) 20 (v := .string e8796.Value) rfl (by kernel_rfl) (by kernel_rfl) (by kernel_rfl) (by kernel_rfl) hQ hS (y_load hS rfl ty9 0 rfl eo_nil (us := [.string e8796.Value]) rfl rfl (fun _ => rfl)) rfl rfl rfl hb8914 rfl rfl fun a hS => ?_
                    refine dyg 21 (v := .bool (u8915.toList == e8796.Value.toList)) rfl (by kernel_rfl) (by kernel_rfl) (by kernel_rfl) rfl hQ hS (y_str hS rfl rfl rfl) rfl rfl rfl hb8914 rfl rfl fun a hS => ?_
                    refine dy 22 (v := .bool (u8915.toList == e8796.Value.toList)) rfl (by kernel_rfl) (by kernel_rfl) (by kernel_rfl) rfl hQ hS (y_pickf hS rfl hb8914 rfl) rfl rfl rfl fun a hS => ?_
                    refine wpE_done (by kernel_rfl) ?_ _
                    try simp only [Exit.then, Exit.inBlock, ↓reduceIte, Nat.reduceEqDiff]
                    exact ⟨(u8915.toList == e8796.Value.toList), (hS.meet [1, 2, 3, 0] (by decide) ⟨rfl, rfl, rfl, rfl, rfl, rfl, rfl, rfl, rfl, rfl, rfl, trivial⟩ ⟨rfl, rfl, rfl, rfl, trivial⟩ ⟨⟨2, rfl⟩, ⟨3, rfl⟩, ⟨4, rfl⟩, ⟨5, rfl⟩, ⟨6, rfl⟩, trivial⟩), hM⟩
                · replace hM := cf hb8904 hM
                  refine dyn 3 rfl (by kernel_rfl) (by kernel_rfl) (by kernel_rfl) hQ hS rfl rfl rfl hb8904 rfl rfl fun a hS => ?_
                  refine dyn 4 rfl (by kernel_rfl) (by kernel_rfl) (by kernel_rfl) hQ hS rfl rfl rfl hb8904 rfl rfl fun a hS => ?_
                  refine dyn 5 rfl (by kernel_rfl) (by kernel_rfl) (by kernel_rfl) hQ hS rfl rfl rfl hb8904 rfl rfl fun a hS => ?_
                  refine dyn 6 rfl (by kernel_rfl) (by kernel_rfl) (by kernel_rfl) hQ hS rfl rfl rfl hb8904 rfl rfl fun a hS => ?_
                  refine dyn 7 rfl (by kernel_rfl) (by kernel_rfl) (by kernel_rfl) hQ hS rfl rfl rfl hb8904 rfl rfl fun a hS => ?_
                  refine dyn 8 rfl (by kernel_rfl) (by kernel_rfl) (by kernel_rfl) hQ hS rfl rfl rfl hb8904 rfl rfl fun a hS => ?_
                  refine dyn 9 rfl (by kernel_rfl) (by kernel_rfl) (by kernel_rfl) hQ hS rfl rfl rfl hb8904 rfl rfl fun a hS => ?_
                  refine dyn 10 rfl (by kernel_rfl) (by kernel_rfl) (by kernel_rfl) hQ hS rfl rfl rfl hb8904 rfl rfl fun a hS => ?_
                  refine dyn 11 rfl (by kernel_rfl) (by kernel_rfl) (by kernel_rfl) hQ hS rfl rfl rfl hb8904 rfl rfl fun a hS => ?_
                  refine dyn 12 rfl (by kernel_rfl) (by kernel_rfl) (by kernel_rfl) hQ hS rfl rfl rfl hb8904 rfl rfl fun a hS => ?_
                  refine dy 13 (v := .bool false) rfl (by kernel_rfl) (by kernel_rfl) (by kernel_rfl) rfl hQ hS (y_pickf hS rfl hb8904 rfl) rfl rfl rfl fun a hS => ?_
                  refine dy 14 (v := .bool false) rfl (by kernel_rfl) (by kernel_rfl) (by kernel_rfl) rfl hQ hS (y_move hS rfl) rfl rfl rfl fun a hS => ?_
                  refine dyg 15 (v := .map (some b3949)) rfl (by kernel_rfl) (by kernel_rfl) (by kernel_rfl) rfl hQ hS (y_move hS rfl) rfl rfl rfl rfl rfl rfl fun a hS => ?_
                  refine dyg 16 (v := .pointer (some ⟨b8802, 0 + 0, none⟩)) rfl (by kernel_rfl) (by kernel_rfl) (by kernel_rfl) rfl hQ hS (y_fld hS rfl fl88_0) rfl rfl rfl rfl rfl rfl fun a hS => ?_
                  refine dyg (l := []) 17 (v := .agg #[.int .i64 e8796.Key.Kind, .string e8796.Key.Text]) rfl (by kernel_rfl) (by kernel_rfl) (by kernel_rfl) (by kernel_rfl) hQ hS (y_load hS rfl ty26 0 rfl eo_nil (us := [.int .i64 e8796.Key.Kind, .string e8796.Key.Text]) rfl rfl (fun h => by cases h)) rfl rfl rfl rfl rfl rfl fun a hS => ?_
                  obtain ⟨u8919, hu8919, hM⟩ := bd hM
                  obtain ⟨cv8920, hr8921, hy8922⟩ := d_looku hS mp84 kt_KeyD 2 rfl 2 rfl (c := [.int .i64 e8796.Key.Kind, .string e8796.Key.Text]) (key := e8796.Key) rfl zv9 (zc := [.string (ByteArray.mk #[])]) rfl rfl hu8919
                  obtain rfl := hr8921
                  refine dyg (l := []) 18 (v := .string u8919) rfl (by kernel_rfl) (by kernel_rfl) (by kernel_rfl) (by kernel_rfl) hQ hS (hy8922 rfl rfl eo_nil) rfl rfl rfl rfl rfl rfl fun a hS => ?_
                  refine dyg 19 (v := .pointer (some ⟨b8802, 0 + 2, none⟩)) rfl (by kernel_rfl) (by kernel_rfl) (by kernel_rfl) rfl hQ hS (y_fld hS rfl fl88_1) rfl rfl rfl rfl rfl rfl fun a hS => ?_
                  refine dyg (l := []) 20 (v := .string e8796.Value) rfl (by kernel_rfl) (by kernel_rfl) (by kernel_rfl) (by kernel_rfl) hQ hS (y_load hS rfl ty9 0 rfl eo_nil (us := [.string e8796.Value]) rfl rfl (fun _ => rfl)) rfl rfl rfl rfl rfl rfl fun a hS => ?_
                  refine dyg 21 (v := .bool (u8919.toList == e8796.Value.toList)) rfl (by kernel_rfl) (by kernel_rfl) (by kernel_rfl) rfl hQ hS (y_str hS rfl rfl rfl) rfl rfl rfl rfl rfl rfl fun a hS => ?_
                  refine dy 22 (v := .bool (u8919.toList == e8796.Value.toList)) rfl (by kernel_rfl) (by kernel_rfl) (by kernel_rfl) rfl hQ hS (y_pickf hS rfl rfl rfl) rfl rfl rfl fun a hS => ?_
                  refine wpE_done (by kernel_rfl) ?_ _
                  try simp only [Exit.then, Exit.inBlock, ↓reduceIte, Nat.reduceEqDiff]
                  exact ⟨(u8919.toList == e8796.Value.toList), (hS.meet [1, 2, 3, 0] (by decide) ⟨rfl, rfl, rfl, rfl, rfl, rfl, rfl, rfl, rfl, rfl, rfl, trivial⟩ ⟨rfl, rfl, rfl, rfl, trivial⟩ ⟨⟨1, rfl⟩, ⟨2, rfl⟩, ⟨3, rfl⟩, ⟨4, rfl⟩, ⟨5, rfl⟩, trivial⟩), hM⟩
              · rintro a w ⟨g8881, hS, hM⟩
                unfold law39_BranchDiffs_j9 at hM
                rcases bool2 (g8881) with hb8882 | hb8882
                · replace hM := ct hb8882 hM
                  refine c_t hS rfl hb8882 ?_
                  refine wp_seq_k fun K891 hK891 => ?_
                  refine r_list ?_
                  refine wl rfl (ky (v := .bool false) hS (y_assign hS rfl) rfl rfl fun a hS => ?_)
                  refine wpList_nil ?_
                  try simp only [Exit.then, Exit.inBlock, ↓reduceIte, Nat.reduceEqDiff]
                  refine hK891 _ _ ?_
                  refine wp_ret ?_
                  injection hM with hM
                  subst hM
                  have hr := hf2 _ rfl
                  subst hr
                  replace hMo2 := el_out hMo2
                  have hM := hMo2
                  injection hM with hM
                  subst hM
                  have hr := hf1 _ rfl
                  subst hr
                  replace hMo1 := el_out hMo1
                  have hM := hMo1
                  injection hM with hM
                  subst hM
                  try simp only [Exit.then, Exit.inBlock, ↓reduceIte, Nat.reduceEqDiff]
                  refine ret_ok hS Tryd.results11 (res_tmp hS rfl res_nil) ?_
                  exact rfl
                · replace hM := cf hb8882 hM
                  refine c_f hS rfl hb8882 ?_
                  refine wp_skip ?_
                  try simp only [Exit.then, Exit.inBlock, ↓reduceIte, Nat.reduceEqDiff]
                  refine hK890 _ _ ?_
                  refine r_list ?_
                  refine wl rfl (ky (v := .map (some b3949)) hS (y_move hS rfl) rfl rfl fun a hS => ?_)
                  refine wl rfl (ky (v := .pointer (some ⟨b8802, 0 + 0, none⟩)) hS (y_fld hS rfl fl88_0) rfl rfl fun a hS => ?_)
                  refine wl rfl (ky (v := .agg #[.int .i64 e8796.Key.Kind, .string e8796.Key.Text]) hS (y_load hS rfl ty26 3 rfl id (us := [.int .i64 e8796.Key.Kind, .string e8796.Key.Text]) rfl rfl (fun h => by cases h)) rfl rfl fun a hS => ?_)
                  refine wl rfl (ky (v := .pointer (some ⟨b8802, 0 + 2, none⟩)) hS (y_fld hS rfl fl88_1) rfl rfl fun a hS => ?_)
                  refine wl rfl (ky (v := .string e8796.Value) hS (y_load hS rfl ty9 3 rfl id (us := [.string e8796.Value]) rfl rfl (fun _ => rfl)) rfl rfl fun a hS => ?_)
                  refine wl rfl (k_mput hS mp84 kt_KeyD 1 rfl 1 rfl (c := [.int .i64 e8796.Key.Kind, .string e8796.Key.Text]) (cv := [.string e8796.Value]) (key := e8796.Key) (val := e8796.Value) rfl rfl rfl rfl rfl fun es8883 ck8884 w hk hS => ?_)
                  refine wpList_nil ?_
                  try simp only [Exit.then, Exit.inBlock, ↓reduceIte, Nat.reduceEqDiff]
                  refine hK888 _ _ ?_
                  refine r_list ?_
                  refine wl rfl (ky (v := .int .i64 (IntKind.i64.wrap (g8662 + 1))) hS (y_int hS rfl rfl rfl) rfl rfl fun a hS => ?_)
                  refine wl rfl (ky (v := .int .i64 (IntKind.i64.wrap (g8662 + 1))) hS (y_move hS rfl) rfl rfl fun a hS => ?_)
                  refine wpList_nil ?_
                  try simp only [Exit.then, Exit.inBlock, ↓reduceIte, Nat.reduceEqDiff]
                  exact ⟨((mput keq_KeyD e8796.Key e8796.Value at8659), IntKind.i64.wrap (g8662 + 1)), (Option.some.inj hM).symm, (mput keq_KeyD e8796.Key e8796.Value at8659), (IntKind.i64.wrap (g8662 + 1)), es8883, ck8884, rfl, (hS.meet [0, 1, 2] (by decide) ⟨rfl, rfl, rfl, rfl, rfl, rfl, rfl, rfl, rfl, trivial⟩ ⟨rfl, rfl, rfl, trivial⟩ ⟨⟨1, rfl⟩, ⟨0, rfl⟩, ⟨3, rfl⟩, ⟨4, rfl⟩, ⟨5, rfl⟩, trivial⟩)⟩
            · replace hM := cf hb8795 hM
              refine c_f hS rfl hb8795 ?_
              refine wp_exit ?_
              try simp only [Exit.then, Exit.inBlock, ↓reduceIte, Nat.reduceEqDiff]
              injection hM with hM
              subst hM
              have hr := hf2 _ rfl
              subst hr
              replace hMo2 := el_go hMo2
              have hM : law39_BranchDiffs_j8 g7666 g7670 at8659 = some f1 := hMo2
              exact ⟨at8659, es8660, ck8661, (hS.meet [0, 1, 2] (by decide) ⟨rfl, rfl, rfl, rfl, rfl, trivial⟩ ⟨rfl, rfl, rfl, trivial⟩ ⟨⟨0, rfl⟩, ⟨1, rfl⟩, ⟨3, rfl⟩, ⟨4, rfl⟩, trivial⟩), hM⟩
          · rintro a w ⟨at8515, es8516, ck8517, hS, hM⟩
            unfold law39_BranchDiffs_j8 at hM
            refine r_list ?_
            refine wl rfl (ky (v := .int .i64 (IntKind.i64.wrap (g7670 + 1))) hS (y_int hS rfl rfl rfl) rfl rfl fun a hS => ?_)
            refine wl rfl (ky (v := .int .i64 (IntKind.i64.wrap (g7670 + 1))) hS (y_move hS rfl) rfl rfl fun a hS => ?_)
            refine wpList_nil ?_
            try simp only [Exit.then, Exit.inBlock, ↓reduceIte, Nat.reduceEqDiff]
            exact ⟨(at8515, g7666, IntKind.i64.wrap (g7670 + 1)), (Option.some.inj hM).symm, at8515, g7666, (IntKind.i64.wrap (g7670 + 1)), es8516, ck8517, v7667, cl7668, rfl, (hS.meet [0, 1, 2] (by decide) ⟨rfl, rfl, rfl, rfl, rfl, trivial⟩ ⟨rfl, rfl, rfl, trivial⟩ ⟨⟨0, rfl⟩, ⟨1, rfl⟩, ⟨2, rfl⟩, ⟨3, rfl⟩, trivial⟩)⟩
        · replace hM := cf hb8237 hM
          refine c_f hS rfl hb8237 ?_
          refine wp_exit ?_
          try simp only [Exit.then, Exit.inBlock, ↓reduceIte, Nat.reduceEqDiff]
          injection hM with hM
          subst hM
          have hr := hf1 _ rfl
          subst hr
          replace hMo1 := el_go hMo1
          have hM : law39_BranchDiffs_j7 u3946 at7663 = some y := hMo1
          exact ⟨at7663, es7664, ck7665, (hS.meet [0, 1] (by decide) ⟨rfl, rfl, trivial⟩ ⟨rfl, rfl, trivial⟩ ⟨⟨0, rfl⟩, ⟨1, rfl⟩, ⟨3, rfl⟩, trivial⟩), hM⟩
      · rintro a w ⟨at5147, es5148, ck5149, hS, hM⟩
        unfold law39_BranchDiffs_j7 at hM
        refine seq_j (J := fun a w => St W0 No T 117 [] [] [LvF] a w ∧ law39_BranchDiffs_j1 = some y) ?_ ?_
        · skip
          refine wp_seq_k fun K602 hK602 => ?_
          refine r_list ?_
          refine wl rfl (ky (v := .int .i64 0) hS (y_move hS rfl) rfl rfl fun a hS => ?_)
          refine wpList_nil ?_
          try simp only [Exit.then, Exit.inBlock, ↓reduceIte, Nat.reduceEqDiff]
          refine hK602 _ _ ?_
          refine wp_block ?_
          obtain ⟨r1, hl1, hMo1⟩ := bd hM
          refine wp_lp (fun s : Int => law39_BranchDiffs_l6 u3946 at5147 s) (fun s a w => ∃ (g6287 : Int), g6287 = s ∧ St W0 No T 117 [(6, vz3947_3), (7, .map (some b3949)), (92, .int .i64 g6287)] [.own vz3947_3 88 R_ChangeD.size clz3947_4, .obj b3949 (.map es5148 ck5149)] [RowsF R_ChangeD clz3947_4 u3946.1, MapF R_KeyD true Rep.str false es5148 at5147, LvF] a w) hl1 ⟨0, rfl, (hS.meet [0, 1] (by decide) ⟨rfl, rfl, rfl, trivial⟩ ⟨rfl, rfl, trivial⟩ ⟨⟨0, rfl⟩, ⟨1, rfl⟩, ⟨2, rfl⟩, trivial⟩)⟩ ?_
          rintro s a w f1 ⟨g6287, rfl, hS⟩ hM hf1
          have hM : law39_BranchDiffs_l6 u3946 at5147 g6287 = some f1 := hM
          unfold law39_BranchDiffs_l6 at hM
          refine wp_seq_k fun K727 hK727 => ?_
          refine r_list ?_
          refine wl rfl (ky (v := .bool (decide ((g6287 : Int) < 6))) hS (y_int hS rfl rfl rfl) rfl rfl fun a hS => ?_)
          refine wpList_nil ?_
          try simp only [Exit.then, Exit.inBlock, ↓reduceIte, Nat.reduceEqDiff]
          refine hK727 _ _ ?_
          refine wp_seq_k fun K728 hK728 => ?_
          rcases bool2 (decide ((g6287 : Int) < 6)) with hb6666 | hb6666
          · replace hM := ct hb6666 hM
            refine c_t hS rfl hb6666 ?_
            refine wp_skip ?_
            try simp only [Exit.then, Exit.inBlock, ↓reduceIte, Nat.reduceEqDiff]
            refine hK728 _ _ ?_
            refine seq_j (J := fun a w => St W0 No T 117 [(6, vz3947_3), (7, .map (some b3949)), (92, .int .i64 g6287)] [.own vz3947_3 88 R_ChangeD.size clz3947_4, .obj b3949 (.map es5148 ck5149)] [RowsF R_ChangeD clz3947_4 u3946.1, MapF R_KeyD true Rep.str false es5148 at5147, LvF] a w ∧ law39_BranchDiffs_j2 g6287 = some f1) ?_ ?_
            · skip
              refine wp_block ?_
              refine wp_seq_k fun K759 hK759 => ?_
              refine r_list ?_
              refine wl rfl (ky (v := .int .i64 g6287) hS (y_move hS rfl) rfl rfl fun a hS => ?_)
              refine wl rfl (ky (v := .int .i64 g6287) hS (y_assign hS rfl) rfl rfl fun a hS => ?_)
              refine wpList_nil ?_
              try simp only [Exit.then, Exit.inBlock, ↓reduceIte, Nat.reduceEqDiff]
              refine hK759 _ _ ?_
              refine wp_seq_k fun K760 hK760 => ?_
              refine r_list ?_
              refine wl rfl (ky (v := .string (ByteArray.mk #[])) hS (y_assign hS rfl) rfl rfl fun a hS => ?_)
              refine wpList_nil ?_
              try simp only [Exit.then, Exit.inBlock, ↓reduceIte, Nat.reduceEqDiff]
              refine hK760 _ _ ?_
              refine seq_j (J := fun a w => ∃ (want6945 : ByteArray), St W0 No T 117 [(6, vz3947_3), (7, .map (some b3949)), (14, .int .i64 g6287), (15, .string want6945), (92, .int .i64 g6287)] [.own vz3947_3 88 R_ChangeD.size clz3947_4, .obj b3949 (.map es5148 ck5149)] [RowsF R_ChangeD clz3947_4 u3946.1, MapF R_KeyD true Rep.str false es5148 at5147, LvF] a w ∧ law39_BranchDiffs_j3 at5147 g6287 want6945 = some f1) ?_ ?_
              · skip
                refine wp_seq_k fun K776 hK776 => ?_
                refine r_list ?_
                refine wl rfl (ky (v := vz3947_3) hS (y_move hS rfl) rfl rfl fun a hS => ?_)
                refine wl rfl (ky (v := .int .i64 (u3946.1.length : Int)) hS (y_leno (R := R_ChangeD) (xs := u3946.1) hS sl79 rfl 0 rfl 0 rfl) rfl rfl fun a hS => ?_)
                refine wl rfl (ky (v := .int .i64 0) hS (y_move hS rfl) rfl rfl fun a hS => ?_)
                refine wpList_nil ?_
                try simp only [Exit.then, Exit.inBlock, ↓reduceIte, Nat.reduceEqDiff]
                refine hK776 _ _ ?_
                refine wp_block ?_
                obtain ⟨r2, hl2, hMo2⟩ := bd hM
                refine wp_lp (fun s : ByteArray × Int => law39_BranchDiffs_l5 u3946 g6287 s.1 s.2) (fun s a w => ∃ (want6997 : ByteArray) (g6998 : Int), (want6997, g6998) = s ∧ St W0 No T 117 [(6, vz3947_3), (7, .map (some b3949)), (14, .int .i64 g6287), (15, .string want6997), (92, .int .i64 g6287), (95, vz3947_3), (96, .int .i64 (u3946.1.length : Int)), (97, .int .i64 g6998)] [.own vz3947_3 88 R_ChangeD.size clz3947_4, .obj b3949 (.map es5148 ck5149)] [RowsF R_ChangeD clz3947_4 u3946.1, MapF R_KeyD true Rep.str false es5148 at5147, LvF] a w) hl2 ⟨(ByteArray.mk #[]), 0, rfl, (hS.meet [0, 1] (by decide) ⟨rfl, rfl, rfl, rfl, rfl, rfl, rfl, rfl, trivial⟩ ⟨rfl, rfl, trivial⟩ ⟨⟨0, rfl⟩, ⟨1, rfl⟩, ⟨2, rfl⟩, trivial⟩)⟩ ?_
                rintro s a w f2 ⟨want6997, g6998, rfl, hS⟩ hM hf2
                have hM : law39_BranchDiffs_l5 u3946 g6287 want6997 g6998 = some f2 := hM
                unfold law39_BranchDiffs_l5 at hM
                refine wp_seq_k fun K789 hK789 => ?_
                refine r_list ?_
                refine wl rfl (ky (v := .bool (decide ((g6998 : Int) < (u3946.1.length : Int)))) hS (y_int hS rfl rfl rfl) rfl rfl fun a hS => ?_)
                refine wpList_nil ?_
                try simp only [Exit.then, Exit.inBlock, ↓reduceIte, Nat.reduceEqDiff]
                refine hK789 _ _ ?_
                refine wp_seq_k fun K790 hK790 => ?_
                rcases bool2 (decide ((g6998 : Int) < (u3946.1.length : Int))) with hb7043 | hb7043
                · replace hM := ct hb7043 hM
                  refine c_t hS rfl hb7043 ?_
                  refine wp_skip ?_
                  try simp only [Exit.then, Exit.inBlock, ↓reduceIte, Nat.reduceEqDiff]
                  refine hK790 _ _ ?_
                  refine seq_j (J := fun a w => ∃ (want7064 : ByteArray), St W0 No T 117 [(6, vz3947_3), (7, .map (some b3949)), (14, .int .i64 g6287), (15, .string want7064), (92, .int .i64 g6287), (95, vz3947_3), (96, .int .i64 (u3946.1.length : Int)), (97, .int .i64 g6998)] [.own vz3947_3 88 R_ChangeD.size clz3947_4, .obj b3949 (.map es5148 ck5149)] [RowsF R_ChangeD clz3947_4 u3946.1, MapF R_KeyD true Rep.str false es5148 at5147, LvF] a w ∧ law39_BranchDiffs_j4 g6998 want7064 = some f2) ?_ ?_
                  · skip
                    refine wp_block ?_
                    refine wp_seq_k fun K793 hK793 => ?_
                    refine r_list ?_
                    obtain ⟨e7065, he7065, hM⟩ := bd hM
                    refine wl rfl (k_indexo (R := R_ChangeD) hS sl79 ty88 rfl rfl 0 rfl 0 rfl he7065 rfl fun b7066 o7067 p7072 cs7069 hr7068 hO7070 hC7071 a hS => ?_)
                    obtain rfl := hr7068
                    refine wl rfl (ky (v := .agg #[.int .i64 e7065.Key.Kind, .string e7065.Key.Text, .string e7065.Value]) hS (y_loado (k := 0) hS ty88 0 rfl hO7070 hC7071 rfl id (us := [.int .i64 e7065.Key.Kind, .string e7065.Key.Text, .string e7065.Value]) rfl rfl (fun h => by cases h)) rfl rfl fun a hS => ?_)
                    refine wl rfl (k_alloc hS ze88 rfl fun b7073 hnb7075 a w hk hS => ?_)
                    refine wl rfl (k_store hS rfl rfl (us := [.int .i64 e7065.Key.Kind, .string e7065.Key.Text, .string e7065.Value]) rfl ty88 0 rfl rfl rfl (oc rfl (oc rfl (oc rfl on))) fun w hk hS => ?_)
                    refine wpList_nil ?_
                    try simp only [Exit.then, Exit.inBlock, ↓reduceIte, Nat.reduceEqDiff]
                    refine hK793 _ _ ?_
                    refine wp_seq_k fun K794 hK794 => ?_
                    refine draws [] hS mixed rfl (fun c a d v w h => by cases d <;> exact h) fun w hQ hS => ?_
                    refine dy 0 (v := .pointer (some ⟨b7073, 0 + 0, none⟩)) rfl (by kernel_rfl) (by kernel_rfl) (by kernel_rfl) rfl hQ hS (y_fld hS rfl fl88_0) rfl rfl rfl fun a hS => ?_
                    refine dy (l := []) 1 (v := .agg #[.int .i64 e7065.Key.Kind, .string e7065.Key.Text]) rfl (by kernel_rfl) (by kernel_rfl) (by kernel_rfl) (by kernel_rfl) hQ hS (y_load hS rfl ty26 0 rfl eo_nil (us := [.int .i64 e7065.Key.Kind, .string e7065.Key.Text]) rfl rfl (fun h => by cases h)) rfl rfl rfl fun a hS => ?_
                    refine dy 2 (v := .int .i64 g6287) rfl (by kernel_rfl) (by kernel_rfl) (by kernel_rfl) rfl hQ hS (y_move hS rfl) rfl rfl rfl fun a hS => ?_
                    obtain ⟨u7082, hu7082, hM⟩ := bd hM
                    refine wpE_one (i := 3) rfl (by kernel_rfl) rfl (k_call hS ci14 rfl rfl (ref23_Cell_c _ _ hS.dlt (hS.get 2 rfl) g6287 _ hu7082) fun _ w hR a hk hA => ⟨stN (hk), ?_⟩)
                    have he := Eq.symm hR
                    subst he
                    have hS := hA [] (fun r hr => by cases hr) List.Pairwise.nil
                    refine dy 4 (v := .bool ((e7065.Key.Kind : Int) == u7082.Kind && e7065.Key.Text.toList == u7082.Text.toList)) rfl (by kernel_rfl) (by kernel_rfl) (by kernel_rfl) rfl hQ hS (eq26 hS rfl rfl) rfl rfl rfl fun a hS => ?_
                    refine wpE_done (by kernel_rfl) ?_ _
                    try simp only [Exit.then, Exit.inBlock, ↓reduceIte, Nat.reduceEqDiff]
                    refine hK794 _ _ ?_
                    rcases bool2 ((e7065.Key.Kind : Int) == u7082.Kind && e7065.Key.Text.toList == u7082.Text.toList) with hb7084 | hb7084
                    · replace hM := ct hb7084 hM
                      refine c_t hS rfl hb7084 ?_
                      refine r_list ?_
                      refine wl rfl (ky (v := .pointer (some ⟨b7073, 0 + 2, none⟩)) hS (y_fld hS rfl fl88_1) rfl rfl fun a hS => ?_)
                      refine wl rfl (ky (v := .string e7065.Value) hS (y_load hS rfl ty9 0 rfl id (us := [.string e7065.Value]) rfl rfl (fun _ => rfl)) rfl rfl fun a hS => ?_)
                      refine wl rfl (ky (v := .string e7065.Value) hS (y_assign hS rfl) rfl rfl fun a hS => ?_)
                      refine wpList_nil ?_
                      try simp only [Exit.then, Exit.inBlock, ↓reduceIte, Nat.reduceEqDiff]
                      exact ⟨e7065.Value, (hS.meet [1, 2] (by decide) ⟨rfl, rfl, rfl, rfl, rfl, rfl, rfl, rfl, trivial⟩ ⟨rfl, rfl, trivial⟩ ⟨⟨0, rfl⟩, ⟨1, rfl⟩, ⟨2, rfl⟩, trivial⟩), hM⟩
                    · replace hM := cf hb7084 hM
                      refine c_f hS rfl hb7084 ?_
                      refine wp_skip ?_
                      try simp only [Exit.then, Exit.inBlock, ↓reduceIte, Nat.reduceEqDiff]
                      exact ⟨want6997, (hS.meet [1, 2] (by decide) ⟨rfl, rfl, rfl, rfl, rfl, rfl, rfl, rfl, trivial⟩ ⟨rfl, rfl, trivial⟩ ⟨⟨0, rfl⟩, ⟨1, rfl⟩, ⟨2, rfl⟩, trivial⟩), hM⟩
                  · rintro a w ⟨want7064, hS, hM⟩
                    unfold law39_BranchDiffs_j4 at hM
                    refine r_list ?_
                    refine wl rfl (ky (v := .int .i64 (IntKind.i64.wrap (g6998 + 1))) hS (y_int hS rfl rfl rfl) rfl rfl fun a hS => ?_)
                    refine wl rfl (ky (v := .int .i64 (IntKind.i64.wrap (g6998 + 1))) hS (y_move hS rfl) rfl rfl fun a hS => ?_)
                    refine wpList_nil ?_
                    try simp only [Exit.then, Exit.inBlock, ↓reduceIte, Nat.reduceEqDiff]
                    exact ⟨(want7064, IntKind.i64.wrap (g6998 + 1)), (Option.some.inj hM).symm, want7064, (IntKind.i64.wrap (g6998 + 1)), rfl, (hS.meet [0, 1] (by decide) ⟨rfl, rfl, rfl, rfl, rfl, rfl, rfl, rfl, trivial⟩ ⟨rfl, rfl, trivial⟩ ⟨⟨0, rfl⟩, ⟨1, rfl⟩, ⟨2, rfl⟩, trivial⟩)⟩
                · replace hM := cf hb7043 hM
                  refine c_f hS rfl hb7043 ?_
                  refine wp_exit ?_
                  try simp only [Exit.then, Exit.inBlock, ↓reduceIte, Nat.reduceEqDiff]
                  injection hM with hM
                  subst hM
                  have hr := hf2 _ rfl
                  subst hr
                  have hM : law39_BranchDiffs_j3 at5147 g6287 want6997 = some f1 := hMo2
                  exact ⟨want6997, (hS.meet [0, 1] (by decide) ⟨rfl, rfl, rfl, rfl, rfl, trivial⟩ ⟨rfl, rfl, trivial⟩ ⟨⟨0, rfl⟩, ⟨1, rfl⟩, ⟨2, rfl⟩, trivial⟩), hM⟩
              · rintro a w ⟨want6945, hS, hM⟩
                unfold law39_BranchDiffs_j3 at hM
                refine wp_seq_k fun K774 hK774 => ?_
                refine r_list ?_
                refine wl rfl (ky (v := .map (some b3949)) hS (y_move hS rfl) rfl rfl fun a hS => ?_)
                refine wl rfl (ky (v := .int .i64 g6287) hS (y_move hS rfl) rfl rfl fun a hS => ?_)
                obtain ⟨u6946, hu6946, hM⟩ := bd hM
                refine wl rfl (k_call hS ci14 rfl rfl (ref23_Cell_c _ _ hS.dlt (hS.get 2 rfl) g6287 _ hu6946) fun _ w hR a hk hA => ?_)
                have he := Eq.symm hR
                subst he
                have hS := hA [] (fun r hr => by cases hr) List.Pairwise.nil
                obtain ⟨u6948, hu6948, hM⟩ := bd hM
                obtain ⟨cv6949, hr6950, hy6951⟩ := d_looku hS mp84 kt_KeyD 1 rfl 1 rfl (c := [.int .i64 u6946.Kind, .string u6946.Text]) (key := u6946) rfl zv9 (zc := [.string (ByteArray.mk #[])]) rfl rfl hu6948
                obtain rfl := hr6950
                refine wl rfl (ky (v := .string u6948) hS (hy6951 rfl rfl id) rfl rfl fun a hS => ?_)
                refine wl rfl (ky (v := .string want6945) hS (y_move hS rfl) rfl rfl fun a hS => ?_)
                refine wl rfl (ky (v := .bool (!(u6948.toList == want6945.toList))) hS (y_str hS rfl rfl rfl) rfl rfl fun a hS => ?_)
                refine wpList_nil ?_
                try simp only [Exit.then, Exit.inBlock, ↓reduceIte, Nat.reduceEqDiff]
                refine hK774 _ _ ?_
                rcases bool2 (!(u6948.toList == want6945.toList)) with hb6952 | hb6952
                · replace hM := ct hb6952 hM
                  refine c_t hS rfl hb6952 ?_
                  refine wp_seq_k fun K775 hK775 => ?_
                  refine r_list ?_
                  refine wl rfl (ky (v := .bool false) hS (y_assign hS rfl) rfl rfl fun a hS => ?_)
                  refine wpList_nil ?_
                  try simp only [Exit.then, Exit.inBlock, ↓reduceIte, Nat.reduceEqDiff]
                  refine hK775 _ _ ?_
                  refine wp_ret ?_
                  injection hM with hM
                  subst hM
                  have hr := hf1 _ rfl
                  subst hr
                  replace hMo1 := el_out hMo1
                  have hM := hMo1
                  injection hM with hM
                  subst hM
                  try simp only [Exit.then, Exit.inBlock, ↓reduceIte, Nat.reduceEqDiff]
                  refine ret_ok hS Tryd.results11 (res_tmp hS rfl res_nil) ?_
                  exact rfl
                · replace hM := cf hb6952 hM
                  refine c_f hS rfl hb6952 ?_
                  refine wp_skip ?_
                  try simp only [Exit.then, Exit.inBlock, ↓reduceIte, Nat.reduceEqDiff]
                  exact ⟨(hS.meet [0, 1] (by decide) ⟨rfl, rfl, rfl, trivial⟩ ⟨rfl, rfl, trivial⟩ ⟨⟨0, rfl⟩, ⟨1, rfl⟩, ⟨2, rfl⟩, trivial⟩), hM⟩
            · rintro a w ⟨hS, hM⟩
              unfold law39_BranchDiffs_j2 at hM
              refine r_list ?_
              refine wl rfl (ky (v := .int .i64 (IntKind.i64.wrap (g6287 + 1))) hS (y_int hS rfl rfl rfl) rfl rfl fun a hS => ?_)
              refine wl rfl (ky (v := .int .i64 (IntKind.i64.wrap (g6287 + 1))) hS (y_move hS rfl) rfl rfl fun a hS => ?_)
              refine wpList_nil ?_
              try simp only [Exit.then, Exit.inBlock, ↓reduceIte, Nat.reduceEqDiff]
              exact ⟨IntKind.i64.wrap (g6287 + 1), (Option.some.inj hM).symm, (IntKind.i64.wrap (g6287 + 1)), rfl, (hS.meet [0, 1] (by decide) ⟨rfl, rfl, rfl, trivial⟩ ⟨rfl, rfl, trivial⟩ ⟨⟨0, rfl⟩, ⟨1, rfl⟩, ⟨2, rfl⟩, trivial⟩)⟩
          · replace hM := cf hb6666 hM
            refine c_f hS rfl hb6666 ?_
            refine wp_exit ?_
            try simp only [Exit.then, Exit.inBlock, ↓reduceIte, Nat.reduceEqDiff]
            injection hM with hM
            subst hM
            have hr := hf1 _ rfl
            subst hr
            replace hMo1 := el_go hMo1
            have hM : law39_BranchDiffs_j1 = some y := hMo1
            exact ⟨(hS.meet [] (by decide) trivial trivial ⟨⟨2, rfl⟩, trivial⟩), hM⟩
        · rintro a w ⟨hS, hM⟩
          unfold law39_BranchDiffs_j1 at hM
          refine wp_seq_k fun K601 hK601 => ?_
          refine r_list ?_
          obtain ⟨u5907, hu5907, hM⟩ := bd hM
          refine wl rfl (k_call hS ci45 rfl rfl (law39_awake_c _ _ hS.dlt (hS.get 0 rfl) _ hu5907) fun _ w hR a hk hA => ?_)
          have he := Eq.symm hR
          subst he
          have hS := hA [] (fun r hr => by cases hr) List.Pairwise.nil
          refine wl rfl (ky (v := .bool u5907) hS (y_assign hS rfl) rfl rfl fun a hS => ?_)
          refine wpList_nil ?_
          try simp only [Exit.then, Exit.inBlock, ↓reduceIte, Nat.reduceEqDiff]
          refine hK601 _ _ ?_
          refine wp_ret ?_
          injection hM with hM
          subst hM
          try simp only [Exit.then, Exit.inBlock, ↓reduceIte, Nat.reduceEqDiff]
          refine ret_ok hS Tryd.results11 (res_tmp hS rfl res_nil) ?_
          exact rfl
end Go.Proofs.YthpeklnhkkadjaaDoor
